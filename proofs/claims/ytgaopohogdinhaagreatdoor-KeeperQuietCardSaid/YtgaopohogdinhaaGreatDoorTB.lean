/- Rows of records, shards, last answers, as they lie in a note. No condition. -/
import Derived.Test.YtgaopohogdinhaaGreatDoorTA
set_option linter.unusedVariables false
set_option linter.unusedSimpArgs false
namespace Go.Proofs.YtgaopohogdinhaaGreatDoor.note
open Go.ChangeShapes Go.WideShapes Go.ChangeAt Go.RowKit Go.Gz
set_option maxHeartbeats 4000000
set_option maxRecDepth 10000
theorem rws_pure (bs : List UInt8) : pureLL (rws bs) = true := pureLL_of fun r hr => by
  obtain ⟨b, _, rfl⟩ := List.mem_map.1 hr
  rfl
theorem imm_pure (bs : List UInt8) (f nn : Bool) : (AV.imm (rws bs) f nn).pure = true := by simp only [AV.pure, rws_pure]
theorem rws_def (bs : List UInt8) : (bs.map fun b => [byteAV b]) = rws bs := _root_.id rfl
theorem packR_pure (bad : Bool) (bs : List UInt8) : (packR bad bs).pure = true := by
  unfold packR
  cases bad
  · simp only [Bool.false_eq_true, if_false, AV.pure, pureL, rws_def, rws_pure, Bool.and_self]
  · rfl
theorem bytes_frz {σ : AHeap} {d n : Nat} {bs : List UInt8} (h : hget σ d = some (bs.map byteAV)) (hn : n = bs.length) : Frz σ (.slice d 0 n none 1) (.imm (rws bs) false false) := by
  subst hn
  refine .slice h (by rw [Nat.mul_one]; exact sub_all (by simp)) (by simp [rws]) ?_ (fun i y z hy hz => ?_)
  · intro r hr
    obtain ⟨b, _, rfl⟩ := List.mem_map.1 hr
    rfl
  · unfold rws at hz
    rw [rows_flat, hy] at hz
    cases hz
    obtain ⟨b, _, rfl⟩ := List.mem_map.1 (List.mem_of_getElem? hy)
    exact .pure rfl
theorem pk_slice {σ : AHeap} {id d : Nat} {bs : List UInt8} {bad : Bool} (h : Pk σ id bs bad (some d)) : hget σ id = some [.slice d 0 bs.length none 1, .bool bad] ∧ hget σ d = some (bs.map byteAV) ∧ d ≠ id := by
  rcases h with ⟨h, _⟩ | ⟨d', h, h1, h2, h3⟩
  · cases h
  · cases h; exact ⟨h2, h3, h1⟩
theorem pk_lt {σ : AHeap} {id d : Nat} {bs : List UInt8} {bad : Bool} (h : Pk σ id bs bad (some d)) : id < σ.length ∧ d < σ.length := ⟨hget_lt (pk_slice h).1, hget_lt (pk_slice h).2.1⟩
theorem out_frz {bs : List UInt8} {r : AV} {σ : AHeap} (h : ∃ d, hget σ d = some (bs.map byteAV) ∧ r = .slice d 0 bs.length none 1) : ∃ r1, Frz σ r r1 ∧ r1.pure = true ∧ r1 = .imm (rws bs) false false := by
  obtain ⟨d, h1, rfl⟩ := h
  exact ⟨_, bytes_frz h1 rfl, imm_pure _ _ _, rfl⟩
theorem ofNil (σ : AHeap) : Gz.ofBytes σ .nilslice = some [] := _root_.id rfl
/-! One item. -/
structure ShV where
  from_ : List UInt8
  to : List UInt8
  node : Int
  epoch : Int
structure LaV where
  seq : Int
  rep : RepV
def recC (p : List UInt8 × List UInt8) : List AV := [.str p.1, .str p.2]
def ShV.cells (s : ShV) : List AV := [.str s.from_, .str s.to, .int .i64 s.node, .int .i64 s.epoch]
def LaV.cells (l : LaV) : List AV := .int .i64 l.seq :: l.rep.cells
def ShV.bytes (s : ShV) : List UInt8 := [s.from_, s.to].flatMap txt ++ [s.node, s.epoch].flatMap u32
def LaV.bytes (l : LaV) : List UInt8 := [l.seq].flatMap u32 ++ [if l.rep.bad = true then [] else l.rep.bytes].flatMap txt
def replyPD (args : List AV) (σ : AHeap) (K : AV → AHeap → Prop) : Prop := ∃ a : RepV, args = [.agg a.cells] ∧ a.bytes.length ≤ 900000000 ∧ K (packR a.bad a.bytes) σ
theorem replyPD_ok (args : List AV) (σ : AHeap) (K : AV → AHeap → Prop) (h : replyPD args σ K) : Tri Tryz.prog 55 args σ K := by
  obtain ⟨a, rfl, hs, h⟩ := h
  have := Tri.pureD (σ := σ) (Q := fun r => r = packR a.bad a.bytes) (by simp only [pureL, rep_pure, Bool.and_self]) ((reply_ok a hs).mono fun r _ hr => ⟨by rw [hr.2]; exact packR_pure _ _, hr.2⟩)
  exact this.mono fun r σ' hr => by rw [hr.1, hr.2]; exact h
def ShV.zero : ShV := ⟨[], [], 0, 0⟩
def LaV.zero : LaV := ⟨0, RepV.zero⟩
theorem la_pure (l : LaV) : (AV.agg l.cells).pure = true := by have := rep_pure l.rep; simp only [AV.pure] at this; simp only [AV.pure, LaV.cells, pureL, this, Bool.and_self]
theorem rowsRec_pure (l : List (List UInt8 × List UInt8)) : pureLL (l.map recC) = true := pureLL_of fun r hr => by
  obtain ⟨x, _, rfl⟩ := List.mem_map.1 hr
  rfl
theorem rowsSh_pure (l : List (ShV)) : pureLL (l.map ShV.cells) = true := pureLL_of fun r hr => by
  obtain ⟨x, _, rfl⟩ := List.mem_map.1 hr
  rfl
theorem rowsLa_pure (l : List (LaV)) : pureLL (l.map LaV.cells) = true := pureLL_of fun r hr => by
  obtain ⟨x, _, rfl⟩ := List.mem_map.1 hr
  simpa [AV.pure] using la_pure x
end Go.Proofs.YtgaopohogdinhaaGreatDoor.note

/- Parties, numbers, kinds, no ask, no reply, whole spans: what the functions that May calls answer. No condition. -/
set_option linter.unusedVariables false
set_option linter.unusedSimpArgs false
namespace Go.Proofs.YtgaopohogdinhaaGreatDoor.note
open Go.ChangeShapes Go.WideShapes Go.ChangeAt Go.RowKit Go.Gz
section
variable {C : PCall} {n0 : Nat} {R : MExit → Env → AHeap → Prop} {k : Cont} {e : Env} {σ : AHeap}
abbrev r29_0 : List MOper := [⟨(some 2), .move (.c (.bool false)), none⟩]
def b29_0 : SCode := .region r29_0
abbrev r29_1 : List MOper := [⟨(some 3), .move (.t 0), none⟩,
  ⟨(some 4), .bin .geq .num (.t 3) (.c (.int .i64 0)), none⟩,
  ⟨(some 5), .move (.t 4), none⟩,
  ⟨(some 6), .move (.t 0), (some (5, true))⟩,
  ⟨(some 7), .bin .leq .num (.t 6) (.c (.int .i64 5)), (some (5, true))⟩,
  ⟨(some 8), .pick (.t 5) (.t 7) (.c (.bool false)), none⟩,
  ⟨(some 9), .move (.t 8), none⟩,
  ⟨(some 10), .move (.t 0), (some (9, false))⟩,
  ⟨(some 11), .bin .geq .num (.t 10) (.c (.int .i64 100)), (some (9, false))⟩,
  ⟨(some 12), .move (.t 11), (some (9, false))⟩,
  ⟨(some 13), .move (.t 0), (some (12, true))⟩,
  ⟨(some 14), .bin .lss .num (.t 13) (.c (.int .i64 104)), (some (12, true))⟩,
  ⟨(some 15), .pick (.t 12) (.t 14) (.c (.bool false)), (some (9, false))⟩,
  ⟨(some 16), .pick (.t 9) (.c (.bool true)) (.t 15), none⟩,
  ⟨(some 2), .move (.t 16), none⟩]
def b29_1 : SCode := .region r29_1
def b29_2 : SCode := .seq b29_1 .ret
def b29_3 : SCode := .seq b29_0 b29_2
def s29 : SFunc := ⟨17, [.t 2], b29_3⟩
theorem c29 : sFn Tryz.prog 29 = some s29 := by kernel_rfl
theorem Z29 : XR b29_0 r29_0 ∧ XR b29_1 r29_1 ∧ XS b29_2 b29_1 .ret ∧ XS b29_3 b29_0 b29_2 ∧ XY s29 17 b29_3 [.t 2] := ⟨rfl, rfl, rfl, rfl, rfl⟩
abbrev r30_0 : List MOper := [⟨(some 2), .move (.c (.bool false)), none⟩]
def b30_0 : SCode := .region r30_0
abbrev r30_1 : List MOper := [⟨(some 3), .move (.t 0), none⟩,
  ⟨(some 4), .bin .geq .num (.t 3) (.c (.int .i64 0)), none⟩,
  ⟨(some 5), .move (.t 4), none⟩,
  ⟨(some 6), .move (.t 0), (some (5, true))⟩,
  ⟨(some 7), .bin .leq .num (.t 6) (.c (.int .i64 268435455)), (some (5, true))⟩,
  ⟨(some 8), .pick (.t 5) (.t 7) (.c (.bool false)), none⟩,
  ⟨(some 2), .move (.t 8), none⟩]
def b30_1 : SCode := .region r30_1
def b30_2 : SCode := .seq b30_1 .ret
def b30_3 : SCode := .seq b30_0 b30_2
def s30 : SFunc := ⟨9, [.t 2], b30_3⟩
theorem c30 : sFn Tryz.prog 30 = some s30 := by kernel_rfl
theorem Z30 : XR b30_0 r30_0 ∧ XR b30_1 r30_1 ∧ XS b30_2 b30_1 .ret ∧ XS b30_3 b30_0 b30_2 ∧ XY s30 9 b30_3 [.t 2] := ⟨rfl, rfl, rfl, rfl, rfl⟩
abbrev r31_0 : List MOper := [⟨(some 4), .move (.c (.bool false)), none⟩]
def b31_0 : SCode := .region r31_0
abbrev r31_1 : List MOper := [⟨(some 7), .move (.t 1), none⟩,
  ⟨(some 8), .lenSl (.t 7), none⟩,
  ⟨(some 9), .move (.c (.int .i64 0)), none⟩]
def b31_1 : SCode := .region r31_1
abbrev r31_2 : List MOper := [⟨(some 10), .bin .lss .num (.t 9) (.t 8), none⟩]
def b31_2 : SCode := .region r31_2
def b31_3 : SCode := .cond (.t 10) .skip (.exit 0)
abbrev r31_4 : List MOper := [⟨(some 11), .indexAddr 1 (.t 7) (.t 9), none⟩,
  ⟨(some 12), .load1 (.t 11), none⟩,
  ⟨(some 6), .move (.t 12), none⟩]
def b31_4 : SCode := .region r31_4
abbrev r31_5 : List MOper := [⟨(some 13), .move (.t 6), none⟩,
  ⟨(some 14), .move (.t 0), none⟩,
  ⟨(some 15), .bin .eql .num (.t 13) (.t 14), none⟩]
def b31_5 : SCode := .region r31_5
abbrev r31_6 : List MOper := [⟨(some 4), .move (.c (.bool true)), none⟩]
def b31_6 : SCode := .region r31_6
def b31_7 : SCode := .seq b31_6 .ret
def b31_8 : SCode := .cond (.t 15) b31_7 .skip
def b31_9 : SCode := .seq b31_5 b31_8
def b31_10 : SCode := .seq b31_4 b31_9
def b31_11 : SCode := .block 1 b31_10
abbrev r31_12 : List MOper := [⟨(some 16), .bin .add .num (.t 9) (.c (.int .i64 1)), none⟩,
  ⟨(some 9), .move (.t 16), none⟩]
def b31_12 : SCode := .region r31_12
def b31_13 : SCode := .seq b31_11 b31_12
def b31_14 : SCode := .seq b31_3 b31_13
def b31_15 : SCode := .seq b31_2 b31_14
def b31_16 : SCode := .loop b31_15
def b31_17 : SCode := .block 0 b31_16
def b31_18 : SCode := .seq b31_1 b31_17
abbrev r31_19 : List MOper := [⟨(some 4), .move (.c (.bool false)), none⟩]
def b31_19 : SCode := .region r31_19
def b31_20 : SCode := .seq b31_19 .ret
def b31_21 : SCode := .seq b31_18 b31_20
def b31_22 : SCode := .seq b31_0 b31_21
def s31 : SFunc := ⟨17, [.t 4], b31_22⟩
theorem c31 : sFn Tryz.prog 31 = some s31 := by kernel_rfl
theorem Z31 : XR b31_0 r31_0 ∧ XR b31_1 r31_1 ∧ XR b31_2 r31_2 ∧ XC b31_3 (.t 10) .skip (.exit 0) ∧ XR b31_4 r31_4 ∧ XR b31_5 r31_5 ∧ XR b31_6 r31_6 ∧ XS b31_7 b31_6 .ret ∧ XC b31_8 (.t 15) b31_7 .skip ∧ XS b31_9 b31_5 b31_8 ∧ XS b31_10 b31_4 b31_9 ∧ XB b31_11 1 b31_10 ∧ XR b31_12 r31_12 ∧ XS b31_13 b31_11 b31_12 ∧ XS b31_14 b31_3 b31_13 ∧ XS b31_15 b31_2 b31_14 ∧ XB b31_17 0 b31_16 ∧ XS b31_18 b31_1 b31_17 ∧ XR b31_19 r31_19 ∧ XS b31_20 b31_19 .ret ∧ XS b31_21 b31_18 b31_20 ∧ XS b31_22 b31_0 b31_21 ∧ XY s31 17 b31_22 [.t 4] := ⟨rfl, rfl, rfl, sC_cond, rfl, rfl, rfl, rfl, sC_cond, rfl, rfl, rfl, rfl, rfl, rfl, rfl, rfl, rfl, rfl, rfl, rfl, rfl, rfl⟩
abbrev r56_0 : List MOper := [⟨(some 1), .box (.t 0), none⟩,
  ⟨(some 2), .move (.c (.bool false)), none⟩]
def b56_0 : SCode := .region r56_0
abbrev r56_1 : List MOper := [⟨(some 3), .loadN 8 (.t 1), none⟩,
  ⟨(some 4), .build [.int .i64 0, .int .i64 0, .int .i64 0, .str [], .str [], .str [], .str [], .int .i64 0] [], none⟩,
  ⟨(some 5), .bin .eql (.flat [.i, .i, .i, .s, .s, .s, .s, .i]) (.t 3) (.t 4), none⟩,
  ⟨(some 2), .move (.t 5), none⟩]
def b56_1 : SCode := .region r56_1
def b56_2 : SCode := .seq b56_1 .ret
def b56_3 : SCode := .seq b56_0 b56_2
def s56 : SFunc := ⟨6, [.t 2], b56_3⟩
theorem c56 : sFn Tryz.prog 56 = some s56 := by kernel_rfl
theorem Z56 : XR b56_0 r56_0 ∧ XR b56_1 r56_1 ∧ XS b56_2 b56_1 .ret ∧ XS b56_3 b56_0 b56_2 ∧ XY s56 6 b56_3 [.t 2] := ⟨rfl, rfl, rfl, rfl, rfl⟩
abbrev r57_0 : List MOper := [⟨(some 1), .box (.t 0), none⟩,
  ⟨(some 2), .move (.c (.bool false)), none⟩]
def b57_0 : SCode := .region r57_0
abbrev r57_1 : List MOper := [⟨(some 3), .fieldAddr 0 (.t 1), none⟩,
  ⟨(some 4), .load1 (.t 3), none⟩,
  ⟨(some 5), .bin .eql .num (.t 4) (.c (.int .i64 0)), none⟩,
  ⟨(some 6), .move (.t 5), none⟩,
  ⟨(some 7), .fieldAddr 1 (.t 1), (some (6, true))⟩,
  ⟨(some 8), .load1 (.t 7), (some (6, true))⟩,
  ⟨(some 9), .bin .eql .num (.t 8) (.c (.int .i64 0)), (some (6, true))⟩,
  ⟨(some 10), .pick (.t 6) (.t 9) (.c (.bool false)), none⟩,
  ⟨(some 11), .move (.t 10), none⟩,
  ⟨(some 12), .fieldAddr 2 (.t 1), (some (11, true))⟩,
  ⟨(some 13), .load1 (.t 12), (some (11, true))⟩,
  ⟨(some 14), .bin .eql .num (.t 13) (.c (.int .i64 0)), (some (11, true))⟩,
  ⟨(some 15), .pick (.t 11) (.t 14) (.c (.bool false)), none⟩,
  ⟨(some 16), .move (.t 15), none⟩,
  ⟨(some 17), .fieldAddr 3 (.t 1), (some (16, true))⟩,
  ⟨(some 18), .load1 (.t 17), (some (16, true))⟩,
  ⟨(some 19), .un .not (.t 18), (some (16, true))⟩,
  ⟨(some 20), .pick (.t 16) (.t 19) (.c (.bool false)), none⟩,
  ⟨(some 21), .move (.t 20), none⟩,
  ⟨(some 22), .fieldAddr 4 (.t 1), (some (21, true))⟩,
  ⟨(some 23), .load1 (.t 22), (some (21, true))⟩,
  ⟨(some 24), .bin .eql .num (.t 23) (.c (.str [])), (some (21, true))⟩,
  ⟨(some 25), .pick (.t 21) (.t 24) (.c (.bool false)), none⟩,
  ⟨(some 26), .move (.t 25), none⟩,
  ⟨(some 27), .fieldAddr 5 (.t 1), (some (26, true))⟩,
  ⟨(some 28), .load1 (.t 27), (some (26, true))⟩,
  ⟨(some 29), .lenSl (.t 28), (some (26, true))⟩,
  ⟨(some 30), .bin .eql .num (.t 29) (.c (.int .i64 0)), (some (26, true))⟩,
  ⟨(some 31), .pick (.t 26) (.t 30) (.c (.bool false)), none⟩,
  ⟨(some 32), .move (.t 31), none⟩,
  ⟨(some 33), .fieldAddr 6 (.t 1), (some (32, true))⟩,
  ⟨(some 34), .load1 (.t 33), (some (32, true))⟩,
  ⟨(some 35), .bin .eql .num (.t 34) (.c (.str [])), (some (32, true))⟩,
  ⟨(some 36), .pick (.t 32) (.t 35) (.c (.bool false)), none⟩,
  ⟨(some 37), .move (.t 36), none⟩,
  ⟨(some 38), .fieldAddr 7 (.t 1), (some (37, true))⟩,
  ⟨(some 39), .load1 (.t 38), (some (37, true))⟩,
  ⟨(some 40), .un .not (.t 39), (some (37, true))⟩,
  ⟨(some 41), .pick (.t 37) (.t 40) (.c (.bool false)), none⟩,
  ⟨(some 2), .move (.t 41), none⟩]
def b57_1 : SCode := .region r57_1
def b57_2 : SCode := .seq b57_1 .ret
def b57_3 : SCode := .seq b57_0 b57_2
def s57 : SFunc := ⟨42, [.t 2], b57_3⟩
theorem c57 : sFn Tryz.prog 57 = some s57 := by kernel_rfl
theorem Z57 : XR b57_0 r57_0 ∧ XR b57_1 r57_1 ∧ XS b57_2 b57_1 .ret ∧ XS b57_3 b57_0 b57_2 ∧ XY s57 42 b57_3 [.t 2] := ⟨rfl, rfl, rfl, rfl, rfl⟩
abbrev r110_0 : List MOper := [⟨(some 2), .move (.c (.bool false)), none⟩]
def b110_0 : SCode := .region r110_0
abbrev r110_1 : List MOper := [⟨(some 3), .move (.c (.str [])), none⟩]
def b110_1 : SCode := .region r110_1
abbrev r110_2 : List MOper := [⟨(some 6), .move (.t 0), none⟩,
  ⟨(some 7), .lenSl (.t 6), none⟩,
  ⟨(some 8), .move (.c (.int .i64 0)), none⟩]
def b110_2 : SCode := .region r110_2
abbrev r110_3 : List MOper := [⟨(some 9), .bin .lss .num (.t 8) (.t 7), none⟩]
def b110_3 : SCode := .region r110_3
def b110_4 : SCode := .cond (.t 9) .skip (.exit 0)
abbrev r110_5 : List MOper := [⟨(some 10), .move (.t 8), none⟩,
  ⟨(some 11), .indexAddr 2 (.t 6) (.t 8), none⟩,
  ⟨(some 12), .loadN 2 (.t 11), none⟩,
  ⟨(some 5), .alloc [.str [], .str []], none⟩,
  ⟨(some 4), .move (.t 10), none⟩,
  ⟨none, .store 2 (.t 5) (.t 12), none⟩]
def b110_5 : SCode := .region r110_5
abbrev r110_6 : List MOper := [⟨(some 13), .loadN 2 (.t 5), none⟩,
  ⟨(some 14), .call 91 [(.t 13)], none⟩,
  ⟨(some 15), .move (.t 14), none⟩,
  ⟨(some 16), .fieldAddr 0 (.t 5), (some (15, false))⟩,
  ⟨(some 17), .load1 (.t 16), (some (15, false))⟩,
  ⟨(some 18), .move (.t 3), (some (15, false))⟩,
  ⟨(some 19), .bin .neq .num (.t 17) (.t 18), (some (15, false))⟩,
  ⟨(some 20), .pick (.t 15) (.c (.bool true)) (.t 19), none⟩,
  ⟨(some 21), .move (.t 20), none⟩,
  ⟨(some 22), .move (.t 4), (some (21, false))⟩,
  ⟨(some 23), .bin .gtr .num (.t 22) (.c (.int .i64 0)), (some (21, false))⟩,
  ⟨(some 24), .move (.t 23), (some (21, false))⟩,
  ⟨(some 25), .move (.t 3), (some (24, true))⟩,
  ⟨(some 26), .bin .eql .num (.t 25) (.c (.str [])), (some (24, true))⟩,
  ⟨(some 27), .pick (.t 24) (.t 26) (.c (.bool false)), (some (21, false))⟩,
  ⟨(some 28), .pick (.t 21) (.c (.bool true)) (.t 27), none⟩]
def b110_6 : SCode := .region r110_6
abbrev r110_7 : List MOper := [⟨(some 2), .move (.c (.bool false)), none⟩]
def b110_7 : SCode := .region r110_7
def b110_8 : SCode := .seq b110_7 .ret
def b110_9 : SCode := .cond (.t 28) b110_8 .skip
def b110_10 : SCode := .seq b110_6 b110_9
abbrev r110_11 : List MOper := [⟨(some 29), .fieldAddr 1 (.t 5), none⟩,
  ⟨(some 30), .load1 (.t 29), none⟩,
  ⟨(some 3), .move (.t 30), none⟩]
def b110_11 : SCode := .region r110_11
def b110_12 : SCode := .seq b110_10 b110_11
def b110_13 : SCode := .seq b110_5 b110_12
def b110_14 : SCode := .block 1 b110_13
abbrev r110_15 : List MOper := [⟨(some 31), .bin .add .num (.t 8) (.c (.int .i64 1)), none⟩,
  ⟨(some 8), .move (.t 31), none⟩]
def b110_15 : SCode := .region r110_15
def b110_16 : SCode := .seq b110_14 b110_15
def b110_17 : SCode := .seq b110_4 b110_16
def b110_18 : SCode := .seq b110_3 b110_17
def b110_19 : SCode := .loop b110_18
def b110_20 : SCode := .block 0 b110_19
def b110_21 : SCode := .seq b110_2 b110_20
abbrev r110_22 : List MOper := [⟨(some 32), .move (.t 0), none⟩,
  ⟨(some 33), .lenSl (.t 32), none⟩,
  ⟨(some 34), .bin .gtr .num (.t 33) (.c (.int .i64 0)), none⟩,
  ⟨(some 35), .move (.t 34), none⟩,
  ⟨(some 36), .move (.t 3), (some (35, true))⟩,
  ⟨(some 37), .bin .eql .num (.t 36) (.c (.str [])), (some (35, true))⟩,
  ⟨(some 38), .pick (.t 35) (.t 37) (.c (.bool false)), none⟩,
  ⟨(some 2), .move (.t 38), none⟩]
def b110_22 : SCode := .region r110_22
def b110_23 : SCode := .seq b110_22 .ret
def b110_24 : SCode := .seq b110_21 b110_23
def b110_25 : SCode := .seq b110_1 b110_24
def b110_26 : SCode := .seq b110_0 b110_25
def s110 : SFunc := ⟨39, [.t 2], b110_26⟩
theorem c110 : sFn Tryz.prog 110 = some s110 := by kernel_rfl
theorem Z110 : XR b110_0 r110_0 ∧ XR b110_1 r110_1 ∧ XR b110_2 r110_2 ∧ XR b110_3 r110_3 ∧ XC b110_4 (.t 9) .skip (.exit 0) ∧ XR b110_5 r110_5 ∧ XR b110_6 r110_6 ∧ XR b110_7 r110_7 ∧ XS b110_8 b110_7 .ret ∧ XC b110_9 (.t 28) b110_8 .skip ∧ XS b110_10 b110_6 b110_9 ∧ XR b110_11 r110_11 ∧ XS b110_12 b110_10 b110_11 ∧ XS b110_13 b110_5 b110_12 ∧ XB b110_14 1 b110_13 ∧ XR b110_15 r110_15 ∧ XS b110_16 b110_14 b110_15 ∧ XS b110_17 b110_4 b110_16 ∧ XS b110_18 b110_3 b110_17 ∧ XB b110_20 0 b110_19 ∧ XS b110_21 b110_2 b110_20 ∧ XR b110_22 r110_22 ∧ XS b110_23 b110_22 .ret ∧ XS b110_24 b110_21 b110_23 ∧ XS b110_25 b110_1 b110_24 ∧ XS b110_26 b110_0 b110_25 ∧ XY s110 39 b110_26 [.t 2] := ⟨rfl, rfl, rfl, rfl, sC_cond, rfl, rfl, rfl, rfl, sC_cond, rfl, rfl, rfl, rfl, rfl, rfl, rfl, rfl, rfl, rfl, rfl, rfl, rfl, rfl, rfl, rfl, rfl⟩
abbrev r91_0 : List MOper := [⟨(some 1), .box (.t 0), none⟩,
  ⟨(some 2), .move (.c (.bool false)), none⟩]
def b91_0 : SCode := .region r91_0
abbrev r91_1 : List MOper := [⟨(some 3), .fieldAddr 1 (.t 1), none⟩,
  ⟨(some 4), .load1 (.t 3), none⟩,
  ⟨(some 5), .bin .neq .num (.t 4) (.c (.str [])), none⟩,
  ⟨(some 6), .move (.t 5), none⟩,
  ⟨(some 7), .fieldAddr 1 (.t 1), (some (6, true))⟩,
  ⟨(some 8), .load1 (.t 7), (some (6, true))⟩,
  ⟨(some 9), .fieldAddr 0 (.t 1), (some (6, true))⟩,
  ⟨(some 10), .load1 (.t 9), (some (6, true))⟩,
  ⟨(some 11), .bin .leq .num (.t 8) (.t 10), (some (6, true))⟩,
  ⟨(some 12), .pick (.t 6) (.t 11) (.c (.bool false)), none⟩,
  ⟨(some 2), .move (.t 12), none⟩]
def b91_1 : SCode := .region r91_1
def b91_2 : SCode := .seq b91_1 .ret
def b91_3 : SCode := .seq b91_0 b91_2
def s91 : SFunc := ⟨13, [.t 2], b91_3⟩
theorem c91 : sFn Tryz.prog 91 = some s91 := by kernel_rfl
theorem Z91 : XR b91_0 r91_0 ∧ XR b91_1 r91_1 ∧ XS b91_2 b91_1 .ret ∧ XS b91_3 b91_0 b91_2 ∧ XY s91 13 b91_3 [.t 2] := ⟨rfl, rfl, rfl, rfl, rfl⟩

end
set_option maxHeartbeats 4000000
set_option maxRecDepth 10000
theorem push_new' {σ : AHeap} {c : List AV} : hget (hpush σ c) (List.length σ) = some c := push_new rfl
/-! Numbers, parties, kinds. -/
def partyB (n : Int) : Bool := (decide (0 ≤ n) && decide (n ≤ 5)) || (decide (100 ≤ n) && decide (n < 104))
theorem party_ok (n : Int) : Tri Tryz.prog 29 [.int .i64 n] [] fun r _ => r.pure = true ∧ r = .bool (partyB n) := by
  refine Tri.of_s c29 (noCall_sound _) ?_
  cases h1 : decide (0 ≤ n) <;> cases h2 : decide (n ≤ 5) <;> cases h3 : decide (100 ≤ n) <;> cases h4 : decide (n < 104) <;>
    (simp only [Z29, base1, baseE, ↓reduceIte, Nat.reduceAdd, Nat.reduceSub, Nat.reduceMul, Nat.reduceEqDiff, Nat.reduceLeDiff, Nat.reduceLT, Int.reduceLT, Int.reduceLE, Int.reduceEq, Int.reduceNe, Int.reduceToNat, Int.reduceAdd, Int.reduceSub, reduceCtorEq, Nat.reduceBEq, Nat.reduceBNe, h1, h2, h3, h4]; exact ⟨rfl, by simp only [partyB, h1, h2, h3, h4]; rfl⟩)
def numB (n : Int) : Bool := decide (0 ≤ n) && decide (n ≤ 268435455)
theorem number_ok (n : Int) : Tri Tryz.prog 30 [.int .i64 n] [] fun r _ => r.pure = true ∧ r = .bool (numB n) := by
  refine Tri.of_s c30 (noCall_sound _) ?_
  cases h1 : decide (0 ≤ n) <;> cases h2 : decide (n ≤ 268435455) <;>
    (simp only [Z30, base1, baseE, ↓reduceIte, Nat.reduceAdd, Nat.reduceSub, Nat.reduceMul, Nat.reduceEqDiff, Nat.reduceLeDiff, Nat.reduceLT, Int.reduceLT, Int.reduceLE, Int.reduceEq, Int.reduceNe, Int.reduceToNat, Int.reduceAdd, Int.reduceSub, reduceCtorEq, Nat.reduceBEq, Nat.reduceBNe, h1, h2]; exact ⟨rfl, by simp only [numB, h1, h2]; rfl⟩)
def partyD : List AV → AHeap → (AV → AHeap → Prop) → Prop
  | [.int .i64 n], σ, K => K (.bool (partyB n)) σ
  | _, _, _ => False
theorem partyD_eq {n : Int} {σ : AHeap} {K : AV → AHeap → Prop} : partyD [.int .i64 n] σ K = K (.bool (partyB n)) σ := _root_.id rfl
theorem partyD_ok (args : List AV) (σ : AHeap) (K : AV → AHeap → Prop) (h : partyD args σ K) : Tri Tryz.prog 29 args σ K := by
  unfold partyD at h
  split at h
  · exact (Tri.pureD rfl (party_ok _) _).mono fun r σ' hr => by rw [hr.1, hr.2]; exact h
  · exact h.elim
def numberD : List AV → AHeap → (AV → AHeap → Prop) → Prop
  | [.int .i64 n], σ, K => K (.bool (numB n)) σ
  | _, _, _ => False
theorem numberD_eq {n : Int} {σ : AHeap} {K : AV → AHeap → Prop} : numberD [.int .i64 n] σ K = K (.bool (numB n)) σ := _root_.id rfl
theorem numberD_ok (args : List AV) (σ : AHeap) (K : AV → AHeap → Prop) (h : numberD args σ K) : Tri Tryz.prog 30 args σ K := by
  unfold numberD at h
  split at h
  · exact (Tri.pureD rfl (number_ok _) _).mono fun r σ' hr => by rw [hr.1, hr.2]; exact h
  · exact h.elim
def hasI (k : Int) (ks : List Int) (cs : List AV) (s : Nat) (σ0 : AHeap) (n : Nat) (e : Env) (σ : AHeap) : Prop :=
  ∃ i : Nat, i ≤ ks.length ∧ n = ks.length - i ∧ σ = σ0 ∧ (ks.take i).contains k = false ∧ e 0 = .int .i64 k ∧ e 7 = .slice s 0 ks.length (some ks.length) 1 ∧ e 8 = .int .i64 (ks.length : Int) ∧ e 9 = .int .i64 (i : Int)
theorem has_step (k : Int) (ks : List Int) (s : Nat) (σ0 : AHeap) (hs : hget σ0 s = some (ks.map fun n => AV.int .i64 n)) (hl : ks.length ≤ 1000) (Q : AV → AHeap → Prop) (hQ : Q (.bool (ks.contains k)) σ0) (n0 n : Nat) (e : Env) (σ : AHeap) (h : hasI k ks [] s σ0 n e σ) :
    sC noCall n0 b31_15 (unw noCall n0 (loopR noCall n0 (RetQ [MRes.t 4] Q) (.block 0 (.seq b31_20 .fin)) (hasI k ks [] s σ0) n) .fin) e σ := by
  obtain ⟨i, hi, hn, rfl, ht, h0, h7, h8, h9⟩ := h
  rcases Nat.lt_or_ge i ks.length with hlt | hge
  · have hlt' : (i : Int) < (ks.length : Int) := by omega
    have hge0 : (0 : Int) ≤ (i : Int) := by omega
    obtain ⟨x, hx⟩ : ∃ x, ks[i]? = some x := ⟨_, List.getElem?_eq_getElem hlt⟩
    have hxx : (ks.map fun n => AV.int .i64 n)[i]? = some (.int .i64 x) := by simp [hx]
    have htk : ks.take (i + 1) = ks.take i ++ [x] := by rw [List.take_add_one, hx]; rfl
    have hw : IntKind.wrap .i64 ((i : Int) + 1) = ((i + 1 : Nat) : Int) := by rw [Gz.wrap64 (by omega)]; omega
    by_cases hxk : x = k
    · have hc : ks.contains k = true := by rw [List.contains_iff_mem]; rw [← hxk]; exact List.mem_of_getElem? hx
      rw [hc] at hQ
      simp only [Z31, base1, baseE, ↓reduceIte, Nat.reduceAdd, Nat.reduceSub, Nat.reduceMul, Nat.reduceEqDiff, Nat.reduceLeDiff, Nat.reduceLT, Int.reduceLT, Int.reduceLE, Int.reduceEq, Int.reduceNe, Int.reduceToNat, Int.reduceAdd, Int.reduceSub, reduceCtorEq, Nat.reduceBEq, Nat.reduceBNe, loopR_exit, loopR_ret, h0, h7, h8, h9, hlt', hlt, hge0, hs, hxx, hxk, Int.toNat_natCast]
      exact hQ
    · simp only [Z31, base1, baseE, ↓reduceIte, Nat.reduceAdd, Nat.reduceSub, Nat.reduceMul, Nat.reduceEqDiff, Nat.reduceLeDiff, Nat.reduceLT, Int.reduceLT, Int.reduceLE, Int.reduceEq, Int.reduceNe, Int.reduceToNat, Int.reduceAdd, Int.reduceSub, reduceCtorEq, Nat.reduceBEq, Nat.reduceBNe, loopR_exit, loopR_ret, h0, h7, h8, h9, hlt', hlt, hge0, hs, hxx, hxk, hw, Int.toNat_natCast]
      rw [loopR_normal]
      refine ⟨ks.length - (i + 1), _, _, by omega, .refl _ _ _, i + 1, hlt, rfl, rfl, ?_, ?_, ?_, ?_, ?_⟩
      · have e1 : (ks.take i ++ [x]).contains k = ((ks.take i).contains k || [x].contains k) := by
          rw [Bool.eq_iff_iff]; simp
        rw [htk, e1, ht]
        have : ¬ k = x := fun e => hxk e.symm
        simp [this]
      all_goals simp only [putD_some, putD_none, Nat.reduceEqDiff, ↓reduceIte, h0, h7, h8, h9, hw]
  · have hlt' : ¬ (i : Int) < (ks.length : Int) := by omega
    have hie : i = ks.length := by omega
    subst hie
    rw [List.take_length] at ht
    rw [ht] at hQ
    simp only [Z31, base1, baseE, ↓reduceIte, Nat.reduceAdd, Nat.reduceSub, Nat.reduceMul, Nat.reduceEqDiff, Nat.reduceLeDiff, Nat.reduceLT, Int.reduceLT, Int.reduceLE, Int.reduceEq, Int.reduceNe, Int.reduceToNat, Int.reduceAdd, Int.reduceSub, reduceCtorEq, Nat.reduceBEq, Nat.reduceBNe, loopR_exit, loopR_ret, h0, h7, h8, h9, hlt']
    exact hQ
def intsL : List AV → Option (List Int)
  | [] => some []
  | .int .i64 n :: r => match intsL r with
    | some l => some (n :: l)
    | none => none
  | _ => none
theorem intsL_nil : intsL [] = some [] := _root_.id rfl
theorem intsL_cons {n : Int} {r : List AV} {l : List Int} (h : intsL r = some l) : intsL (.int .i64 n :: r) = some (n :: l) := by simp only [intsL, h]
theorem intsL_eq : ∀ {cs : List AV} {l : List Int}, intsL cs = some l → cs = l.map fun n => AV.int .i64 n
  | [], l, h => by cases h; rfl
  | .int .i64 n :: r, l, h => by
    simp only [intsL] at h
    split at h
    · rename_i l' hl; cases h; rw [intsL_eq hl]; rfl
    · cases h
theorem intsL_2 {a b : Int} : intsL [.int .i64 a, .int .i64 b] = some [a, b] := _root_.id rfl
theorem intsL_6 {a b c d e f : Int} : intsL [.int .i64 a, .int .i64 b, .int .i64 c, .int .i64 d, .int .i64 e, .int .i64 f] = some [a, b, c, d, e, f] := _root_.id rfl
def hasK (k : Int) (len : Nat) (o : Option (List AV)) (σ : AHeap) (K : AV → AHeap → Prop) : Prop :=
  match o with
  | some cs => (match intsL cs with | some ks => ks.length = len ∧ len ≤ 1000 ∧ K (.bool (ks.contains k)) σ | none => False)
  | none => False
theorem hasK_2 {k a b : Int} {σ : AHeap} {K : AV → AHeap → Prop} : hasK k 2 (some [.int .i64 a, .int .i64 b]) σ K = K (.bool ([a, b].contains k)) σ := by simp [hasK, intsL_2]
theorem hasK_6 {k a b c d e f : Int} {σ : AHeap} {K : AV → AHeap → Prop} : hasK k 6 (some [.int .i64 a, .int .i64 b, .int .i64 c, .int .i64 d, .int .i64 e, .int .i64 f]) σ K = K (.bool ([a, b, c, d, e, f].contains k)) σ := by simp [hasK, intsL_6]
def hasD : List AV → AHeap → (AV → AHeap → Prop) → Prop
  | [.int .i64 k, .slice s 0 len (some c) 1], σ, K => c = len ∧ hasK k len (hget σ s) σ K
  | _, _, _ => False
theorem hasD_eq {k : Int} {s len : Nat} {σ : AHeap} {K : AV → AHeap → Prop} : hasD [.int .i64 k, .slice s 0 len (some len) 1] σ K = hasK k len (hget σ s) σ K := by simp [hasD]
theorem hasD_ok (args : List AV) (σ : AHeap) (K : AV → AHeap → Prop) (h : hasD args σ K) : Tri Tryz.prog 31 args σ K := by
  unfold hasD at h
  split at h
  · obtain ⟨rfl, h⟩ := h
    rename_i k s len
    unfold hasK at h
    split at h
    · rename_i cs hcs
      split at h
      · rename_i ks hks
        obtain ⟨rfl, hl, h⟩ := h
        rw [intsL_eq hks] at hcs
        refine Tri.of_s c31 (noCall_sound _) ?_
        simp only [Z31, base1, baseE, ↓reduceIte, Nat.reduceAdd, Nat.reduceSub, Nat.reduceMul, Nat.reduceEqDiff, Nat.reduceLeDiff, Nat.reduceLT, Int.reduceLT, Int.reduceLE, Int.reduceEq, Int.reduceNe, Int.reduceToNat, Int.reduceAdd, Int.reduceSub, reduceCtorEq, Nat.reduceBEq, Nat.reduceBNe]
        exact sC_inv (a := b31_15) (hasI k ks [] s σ) ks.length _ σ (.refl _ _ _) ⟨0, Nat.zero_le _, rfl, rfl, rfl, rfl, rfl, rfl, rfl⟩ (has_step k ks s σ hcs hl K h σ.length)
      · exact h.elim
    · exact h.elim
  · exact h.elim
/-! No ask, no reply. -/
def noAskB (a : AskV) : Bool := decide (a.do_ = 0) && (decide (a.client = 0) && (decide (a.seq = 0) && (decide (a.text = []) && (decide (a.val = []) && (decide (a.from_ = []) && (decide (a.to = []) && decide (a.limit = 0)))))))
theorem noAsk_ok (a : AskV) : Tri Tryz.prog 56 [.agg a.cells] [] fun r _ => r.pure = true ∧ r = .bool (noAskB a) := by
  refine Tri.of_s c56 (noCall_sound _) ?_
  simp only [AskV.cells, Z56, base1, baseE, ↓reduceIte, Nat.reduceAdd, Nat.reduceSub, Nat.reduceMul, Nat.reduceEqDiff, Nat.reduceLeDiff, Nat.reduceLT, Int.reduceLT, Int.reduceLE, Int.reduceEq, Int.reduceNe, Int.reduceToNat, Int.reduceAdd, Int.reduceSub, reduceCtorEq, Nat.reduceBEq, Nat.reduceBNe]
  exact ⟨rfl, rfl⟩
def noRepB (r : RepV) : Bool := decide (r.client = 0) && (decide (r.seq = 0) && (decide (r.err = 0) && ((!r.found) && (decide (r.val = []) && (decide ((r.l.length : Int) = 0) && (decide (r.next = []) && !r.more))))))
theorem recs_len (l : List (List UInt8 × List UInt8)) : (recs l).length = l.length := by simp [recs]
theorem noReply_ok (a : RepV) : Tri Tryz.prog 57 [.agg a.cells] [] fun r _ => r.pure = true ∧ r = .bool (noRepB a) := by
  refine Tri.of_s c57 (noCall_sound _) ?_
  cases h1 : decide (a.client = 0) with
  | false =>
    simp only [RepV.cells, Z57, base1, baseE, ↓reduceIte, Nat.reduceAdd, Nat.reduceSub, Nat.reduceMul, Nat.reduceEqDiff, Nat.reduceLeDiff, Nat.reduceLT, Int.reduceLT, Int.reduceLE, Int.reduceEq, Int.reduceNe, Int.reduceToNat, Int.reduceAdd, Int.reduceSub, reduceCtorEq, Nat.reduceBEq, Nat.reduceBNe, recs_len, h1]
    exact ⟨rfl, by simp only [noRepB, h1]; rfl⟩
  | true =>
    cases h2 : decide (a.seq = 0) with
    | false =>
      simp only [RepV.cells, Z57, base1, baseE, ↓reduceIte, Nat.reduceAdd, Nat.reduceSub, Nat.reduceMul, Nat.reduceEqDiff, Nat.reduceLeDiff, Nat.reduceLT, Int.reduceLT, Int.reduceLE, Int.reduceEq, Int.reduceNe, Int.reduceToNat, Int.reduceAdd, Int.reduceSub, reduceCtorEq, Nat.reduceBEq, Nat.reduceBNe, recs_len, h1, h2]
      exact ⟨rfl, by simp only [noRepB, h1, h2]; rfl⟩
    | true =>
      cases h3 : decide (a.err = 0) with
      | false =>
        simp only [RepV.cells, Z57, base1, baseE, ↓reduceIte, Nat.reduceAdd, Nat.reduceSub, Nat.reduceMul, Nat.reduceEqDiff, Nat.reduceLeDiff, Nat.reduceLT, Int.reduceLT, Int.reduceLE, Int.reduceEq, Int.reduceNe, Int.reduceToNat, Int.reduceAdd, Int.reduceSub, reduceCtorEq, Nat.reduceBEq, Nat.reduceBNe, recs_len, h1, h2, h3]
        exact ⟨rfl, by simp only [noRepB, h1, h2, h3]; rfl⟩
      | true =>
        cases h4 : a.found with
        | false =>
          cases h5 : decide (a.val = []) with
          | false =>
            simp only [RepV.cells, Z57, base1, baseE, ↓reduceIte, Nat.reduceAdd, Nat.reduceSub, Nat.reduceMul, Nat.reduceEqDiff, Nat.reduceLeDiff, Nat.reduceLT, Int.reduceLT, Int.reduceLE, Int.reduceEq, Int.reduceNe, Int.reduceToNat, Int.reduceAdd, Int.reduceSub, reduceCtorEq, Nat.reduceBEq, Nat.reduceBNe, recs_len, h1, h2, h3, h4, h5]
            exact ⟨rfl, by simp only [noRepB, h1, h2, h3, h4, h5]; rfl⟩
          | true =>
            cases h6 : decide ((a.l.length : Int) = 0) with
            | false =>
              simp only [RepV.cells, Z57, base1, baseE, ↓reduceIte, Nat.reduceAdd, Nat.reduceSub, Nat.reduceMul, Nat.reduceEqDiff, Nat.reduceLeDiff, Nat.reduceLT, Int.reduceLT, Int.reduceLE, Int.reduceEq, Int.reduceNe, Int.reduceToNat, Int.reduceAdd, Int.reduceSub, reduceCtorEq, Nat.reduceBEq, Nat.reduceBNe, recs_len, h1, h2, h3, h4, h5, h6]
              exact ⟨rfl, by simp only [noRepB, h1, h2, h3, h4, h5, h6]; rfl⟩
            | true =>
              cases h7 : decide (a.next = []) with
              | false =>
                simp only [RepV.cells, Z57, base1, baseE, ↓reduceIte, Nat.reduceAdd, Nat.reduceSub, Nat.reduceMul, Nat.reduceEqDiff, Nat.reduceLeDiff, Nat.reduceLT, Int.reduceLT, Int.reduceLE, Int.reduceEq, Int.reduceNe, Int.reduceToNat, Int.reduceAdd, Int.reduceSub, reduceCtorEq, Nat.reduceBEq, Nat.reduceBNe, recs_len, h1, h2, h3, h4, h5, h6, h7]
                exact ⟨rfl, by simp only [noRepB, h1, h2, h3, h4, h5, h6, h7]; rfl⟩
              | true =>
                cases h8 : a.more with
                | false =>
                  simp only [RepV.cells, Z57, base1, baseE, ↓reduceIte, Nat.reduceAdd, Nat.reduceSub, Nat.reduceMul, Nat.reduceEqDiff, Nat.reduceLeDiff, Nat.reduceLT, Int.reduceLT, Int.reduceLE, Int.reduceEq, Int.reduceNe, Int.reduceToNat, Int.reduceAdd, Int.reduceSub, reduceCtorEq, Nat.reduceBEq, Nat.reduceBNe, recs_len, h1, h2, h3, h4, h5, h6, h7, h8]
                  exact ⟨rfl, by simp only [noRepB, h1, h2, h3, h4, h5, h6, h7, h8]; rfl⟩
                | true =>
                  simp only [RepV.cells, Z57, base1, baseE, ↓reduceIte, Nat.reduceAdd, Nat.reduceSub, Nat.reduceMul, Nat.reduceEqDiff, Nat.reduceLeDiff, Nat.reduceLT, Int.reduceLT, Int.reduceLE, Int.reduceEq, Int.reduceNe, Int.reduceToNat, Int.reduceAdd, Int.reduceSub, reduceCtorEq, Nat.reduceBEq, Nat.reduceBNe, recs_len, h1, h2, h3, h4, h5, h6, h7, h8]
                  exact ⟨rfl, by simp only [noRepB, h1, h2, h3, h4, h5, h6, h7, h8]; rfl⟩
        | true =>
          simp only [RepV.cells, Z57, base1, baseE, ↓reduceIte, Nat.reduceAdd, Nat.reduceSub, Nat.reduceMul, Nat.reduceEqDiff, Nat.reduceLeDiff, Nat.reduceLT, Int.reduceLT, Int.reduceLE, Int.reduceEq, Int.reduceNe, Int.reduceToNat, Int.reduceAdd, Int.reduceSub, reduceCtorEq, Nat.reduceBEq, Nat.reduceBNe, recs_len, h1, h2, h3, h4]
          exact ⟨rfl, by simp only [noRepB, h1, h2, h3, h4]; rfl⟩
/-! Spans. -/
def leB (x y : List UInt8) : Bool := lessBytes x y || x == y
def emptyB (p : List UInt8 × List UInt8) : Bool := decide (p.2 ≠ []) && leB p.2 p.1
theorem empty_ok (p : List UInt8 × List UInt8) : Tri Tryz.prog 91 [.agg (recC p)] [] fun r _ => r.pure = true ∧ r = .bool (emptyB p) := by
  refine Tri.of_s c91 (noCall_sound _) ?_
  have hle : (lessBytes p.2 p.1 || p.2 == p.1) = leB p.2 p.1 := rfl
  cases h1 : decide (p.2 ≠ []) with
  | false =>
    simp only [recC, Z91, base1, baseE, ↓reduceIte, Nat.reduceAdd, Nat.reduceSub, Nat.reduceMul, Nat.reduceEqDiff, Nat.reduceLeDiff, Nat.reduceLT, Int.reduceLT, Int.reduceLE, Int.reduceEq, Int.reduceNe, Int.reduceToNat, Int.reduceAdd, Int.reduceSub, reduceCtorEq, Nat.reduceBEq, Nat.reduceBNe, h1]
    exact ⟨rfl, by simp only [emptyB, h1]; rfl⟩
  | true =>
    simp only [recC, Z91, base1, baseE, ↓reduceIte, Nat.reduceAdd, Nat.reduceSub, Nat.reduceMul, Nat.reduceEqDiff, Nat.reduceLeDiff, Nat.reduceLT, Int.reduceLT, Int.reduceLE, Int.reduceEq, Int.reduceNe, Int.reduceToNat, Int.reduceAdd, Int.reduceSub, reduceCtorEq, Nat.reduceBEq, Nat.reduceBNe, h1]
    exact ⟨rfl, by simp only [emptyB, h1, leB]; rfl⟩
def emptyD : List AV → AHeap → (AV → AHeap → Prop) → Prop
  | [.agg [.str f, .str t]], σ, K => K (.bool (emptyB (f, t))) σ
  | _, _, _ => False
theorem emptyD_eq {f t : List UInt8} {σ : AHeap} {K : AV → AHeap → Prop} : emptyD [.agg [.str f, .str t]] σ K = K (.bool (emptyB (f, t))) σ := _root_.id rfl
theorem emptyD_ok (args : List AV) (σ : AHeap) (K : AV → AHeap → Prop) (h : emptyD args σ K) : Tri Tryz.prog 91 args σ K := by
  unfold emptyD at h
  split at h
  · rename_i f t
    exact (Tri.pureD rfl (empty_ok (f, t)) _).mono fun r σ' hr => by rw [hr.1, hr.2]; exact h
  · exact h.elim
def wholeG : Nat → List UInt8 → List (List UInt8 × List UInt8) → Bool
  | i, at_, [] => decide (0 < i) && decide (at_ = [])
  | i, at_, s :: r => if emptyB s || decide (s.1 ≠ at_) || (decide (0 < i) && decide (at_ = [])) then false else wholeG (i + 1) s.2 r
def wholeB (l : List (List UInt8 × List UInt8)) : Bool := wholeG 0 [] l
def W1 : PCall := rowQ 91 emptyD noCall
theorem W1_app {f : FuncId} {args : List AV} {σ : AHeap} {K : AV → AHeap → Prop} : W1 f args σ K = rowQ 91 emptyD noCall f args σ K := _root_.id rfl
theorem W1_sound : Sound Tryz.prog W1 := rowQ_sound emptyD_ok (noCall_sound _)
def whI (l : List (List UInt8 × List UInt8)) (n : Nat) (e : Env) (σ : AHeap) : Prop :=
  ∃ (i : Nat) (at_ : List UInt8), i ≤ l.length ∧ n = l.length - i ∧ wholeG i at_ (l.drop i) = wholeB l ∧ e 0 = .imm (l.map recC) false false ∧ e 3 = .str at_ ∧ e 6 = .imm (l.map recC) false false ∧ e 7 = .int .i64 (l.length : Int) ∧ e 8 = .int .i64 (i : Int)
theorem wh_step (l : List (List UInt8 × List UInt8)) (hl : l.length ≤ 1000000) (n : Nat) (e : Env) (σ : AHeap) (h : whI l n e σ) :
    sC W1 0 b110_18 (unw W1 0 (loopR W1 0 (RetQ [MRes.t 2] fun r _ => r.pure = true ∧ r = .bool (wholeB l)) (.block 0 (.seq b110_23 .fin)) (whI l) n) .fin) e σ := by
  obtain ⟨i, at_, hi, hn, hG, h0, h3, h6, h7, h8⟩ := h
  have hml : (l.map recC).length = l.length := by simp
  rcases Nat.lt_or_ge i l.length with hlt | hge
  · have hlt' : (i : Int) < (l.length : Int) := by omega
    have hge0 : (0 : Int) ≤ (i : Int) := by omega
    obtain ⟨x, hx⟩ : ∃ x, l[i]? = some x := ⟨_, List.getElem?_eq_getElem hlt⟩
    have hxx : (l.map recC)[i]? = some [.str x.1, .str x.2] := by simp [hx, recC]
    have hw : IntKind.wrap .i64 ((i : Int) + 1) = ((i + 1 : Nat) : Int) := by rw [Gz.wrap64 (by omega)]; omega
    have hdr : l.drop i = x :: l.drop (i + 1) := by
      rw [List.drop_eq_getElem_cons hlt]; congr 1
      exact Option.some.inj ((List.getElem?_eq_getElem hlt).symm.trans hx)
    rw [hdr] at hG
    simp only [wholeG] at hG
    have sn : ∀ c c' : List AV, hget (hset (hpush σ c) (List.length σ) c') (List.length σ) = some c' := fun c c' => set_same push_new'
    have hi0 : decide ((0 : Int) < (i : Int)) = decide (0 < i) := by by_cases h : 0 < i <;> simp [h] <;> omega
    have hp : (x.1, x.2) = x := rfl
    have bad : ∀ (σ' : AHeap), (emptyB x || decide (x.1 ≠ at_) || (decide (0 < i) && decide (at_ = []))) = true → (AV.bool false).pure = true ∧ AV.bool false = .bool (wholeB l) := by
      intro σ' hb
      rw [hb, if_pos rfl] at hG
      exact ⟨rfl, by rw [← hG]⟩
    have good : (emptyB x || decide (x.1 ≠ at_) || (decide (0 < i) && decide (at_ = []))) = false → wholeG (i + 1) x.2 (l.drop (i + 1)) = wholeB l := by
      intro hb
      rw [hb] at hG
      simpa using hG
    cases g1 : emptyB x with
    | true =>
      simp only [W1_app, Z110, base1, baseE, ↓reduceIte, Nat.reduceAdd, Nat.reduceSub, Nat.reduceMul, Nat.reduceEqDiff, Nat.reduceLeDiff, Nat.reduceLT, Int.reduceLT, Int.reduceLE, Int.reduceEq, Int.reduceNe, Int.reduceToNat, Int.reduceAdd, Int.reduceSub, reduceCtorEq, Nat.reduceBEq, Nat.reduceBNe, loopR_exit, loopR_ret, emptyD_eq, h0, h3, h6, h7, h8, hlt', hlt, hge0, hxx, hml, hw, Int.toNat_natCast, push_new', sn, hp, g1]
      exact bad σ (by simp [g1])
    | false =>
      cases g2 : decide (x.1 ≠ at_) with
      | true =>
        simp only [W1_app, Z110, base1, baseE, ↓reduceIte, Nat.reduceAdd, Nat.reduceSub, Nat.reduceMul, Nat.reduceEqDiff, Nat.reduceLeDiff, Nat.reduceLT, Int.reduceLT, Int.reduceLE, Int.reduceEq, Int.reduceNe, Int.reduceToNat, Int.reduceAdd, Int.reduceSub, reduceCtorEq, Nat.reduceBEq, Nat.reduceBNe, loopR_exit, loopR_ret, emptyD_eq, h0, h3, h6, h7, h8, hlt', hlt, hge0, hxx, hml, hw, Int.toNat_natCast, push_new', sn, hp, g1, g2]
        exact bad σ (by simp [g1, g2])
      | false =>
        have fin : ∀ e' : Env, ∀ σ', wholeG (i + 1) x.2 (l.drop (i + 1)) = wholeB l → e' 0 = .imm (l.map recC) false false → e' 3 = .str x.2 → e' 6 = .imm (l.map recC) false false → e' 7 = .int .i64 (l.length : Int) → e' 8 = .int .i64 ((i + 1 : Nat) : Int) → loopR W1 0 (RetQ [MRes.t 2] fun r _ => r.pure = true ∧ r = .bool (wholeB l)) (.block 0 (.seq b110_23 .fin)) (whI l) n .normal e' σ' := by
          intro e' σ' hg k0 k3 k6 k7 k8
          rw [loopR_normal]
          exact ⟨l.length - (i + 1), _, _, by omega, .refl _ _ _, i + 1, x.2, hlt, rfl, hg, k0, k3, k6, k7, k8⟩
        cases g3 : decide (0 < i) with
        | false =>
          have gg := good (by simp [g1, g2, g3])
          simp only [W1_app, Z110, base1, baseE, ↓reduceIte, Nat.reduceAdd, Nat.reduceSub, Nat.reduceMul, Nat.reduceEqDiff, Nat.reduceLeDiff, Nat.reduceLT, Int.reduceLT, Int.reduceLE, Int.reduceEq, Int.reduceNe, Int.reduceToNat, Int.reduceAdd, Int.reduceSub, reduceCtorEq, Nat.reduceBEq, Nat.reduceBNe, loopR_exit, loopR_ret, emptyD_eq, h0, h3, h6, h7, h8, hlt', hlt, hge0, hxx, hml, hw, Int.toNat_natCast, push_new', sn, hp, g1, g2, hi0, g3]
          refine fin _ _ gg ?_ ?_ ?_ ?_ ?_
          all_goals simp only [putD_some, putD_none, Nat.reduceEqDiff, ↓reduceIte, h0, h3, h6, h7, h8, hw]
        | true =>
          cases g4 : decide (at_ = []) with
          | true =>
            simp only [W1_app, Z110, base1, baseE, ↓reduceIte, Nat.reduceAdd, Nat.reduceSub, Nat.reduceMul, Nat.reduceEqDiff, Nat.reduceLeDiff, Nat.reduceLT, Int.reduceLT, Int.reduceLE, Int.reduceEq, Int.reduceNe, Int.reduceToNat, Int.reduceAdd, Int.reduceSub, reduceCtorEq, Nat.reduceBEq, Nat.reduceBNe, loopR_exit, loopR_ret, emptyD_eq, h0, h3, h6, h7, h8, hlt', hlt, hge0, hxx, hml, hw, Int.toNat_natCast, push_new', sn, hp, g1, g2, hi0, g3, g4]
            exact bad σ (by simp [g1, g2, g3, g4])
          | false =>
            have gg := good (by simp [g1, g2, g3, g4])
            simp only [W1_app, Z110, base1, baseE, ↓reduceIte, Nat.reduceAdd, Nat.reduceSub, Nat.reduceMul, Nat.reduceEqDiff, Nat.reduceLeDiff, Nat.reduceLT, Int.reduceLT, Int.reduceLE, Int.reduceEq, Int.reduceNe, Int.reduceToNat, Int.reduceAdd, Int.reduceSub, reduceCtorEq, Nat.reduceBEq, Nat.reduceBNe, loopR_exit, loopR_ret, emptyD_eq, h0, h3, h6, h7, h8, hlt', hlt, hge0, hxx, hml, hw, Int.toNat_natCast, push_new', sn, hp, g1, g2, hi0, g3, g4]
            refine fin _ _ gg ?_ ?_ ?_ ?_ ?_
            all_goals simp only [putD_some, putD_none, Nat.reduceEqDiff, ↓reduceIte, h0, h3, h6, h7, h8, hw]
  · have hlt' : ¬ (i : Int) < (l.length : Int) := by omega
    have hie : i = l.length := by omega
    subst hie
    have hd0 : l.drop l.length = [] := List.drop_length
    rw [hd0] at hG
    simp only [wholeG] at hG
    have hi0 : decide ((0 : Int) < (l.length : Int)) = decide (0 < l.length) := by by_cases h : 0 < l.length <;> simp [h] <;> omega
    cases g1 : decide (0 < l.length) <;> cases g2 : decide (at_ = []) <;>
      (simp only [W1_app, Z110, base1, baseE, ↓reduceIte, Nat.reduceAdd, Nat.reduceSub, Nat.reduceMul, Nat.reduceEqDiff, Nat.reduceLeDiff, Nat.reduceLT, Int.reduceLT, Int.reduceLE, Int.reduceEq, Int.reduceNe, Int.reduceToNat, Int.reduceAdd, Int.reduceSub, reduceCtorEq, Nat.reduceBEq, Nat.reduceBNe, loopR_exit, loopR_ret, h0, h3, h6, h7, h8, hlt', hml, hi0, g1, g2]; exact ⟨rfl, by rw [← hG, g1, g2]; rfl⟩)
theorem whole_ok (l : List (List UInt8 × List UInt8)) (hl : l.length ≤ 1000000) : Tri Tryz.prog 110 [.imm (l.map recC) false false] [] fun r _ => r.pure = true ∧ r = .bool (wholeB l) := by
  refine Tri.of_s c110 W1_sound ?_
  have hml : (l.map recC).length = l.length := by simp
  simp only [W1_app, Z110, base1, baseE, ↓reduceIte, Nat.reduceAdd, Nat.reduceSub, Nat.reduceMul, Nat.reduceEqDiff, Nat.reduceLeDiff, Nat.reduceLT, Int.reduceLT, Int.reduceLE, Int.reduceEq, Int.reduceNe, Int.reduceToNat, Int.reduceAdd, Int.reduceSub, reduceCtorEq, Nat.reduceBEq, Nat.reduceBNe, hml]
  exact sC_inv (a := b110_18) (whI l) l.length _ _ (.refl _ _ _) ⟨0, [], Nat.zero_le _, rfl, rfl, rfl, rfl, rfl, rfl, rfl⟩ (wh_step l hl)
end Go.Proofs.YtgaopohogdinhaaGreatDoor.note

/- Which notes may be: what May answers, as a truth that is counted from the note. No condition. -/
set_option linter.unusedVariables false
set_option linter.unusedSimpArgs false
namespace Go.Proofs.YtgaopohogdinhaaGreatDoor.note
open Go.ChangeShapes Go.WideShapes Go.ChangeAt Go.RowKit Go.Gz
section
variable {C : PCall} {n0 : Nat} {R : MExit → Env → AHeap → Prop} {k : Cont} {e : Env} {σ : AHeap}
abbrev r32_0 : List MOper := [⟨(some 1), .box (.t 0), none⟩,
  ⟨(some 2), .move (.c (.bool false)), none⟩]
def b32_0 : SCode := .region r32_0
abbrev r32_1 : List MOper := [⟨(some 8), .fieldAddr 5 (.t 1), none⟩,
  ⟨(some 9), .loadN 8 (.t 8), none⟩,
  ⟨(some 10), .call 54 [(.t 9)], none⟩,
  ⟨(some 7), .move (.t 10), none⟩,
  ⟨(some 11), .extract (.t 7) 0, none⟩,
  ⟨(some 12), .extract (.t 7) 1, none⟩,
  ⟨(some 3), .move (.t 11), none⟩,
  ⟨(some 4), .move (.t 12), none⟩]
def b32_1 : SCode := .region r32_1
abbrev r32_2 : List MOper := [⟨(some 14), .fieldAddr 13 (.t 1), none⟩,
  ⟨(some 15), .loadN 8 (.t 14), none⟩,
  ⟨(some 16), .call 55 [(.t 15)], none⟩,
  ⟨(some 13), .move (.t 16), none⟩,
  ⟨(some 17), .extract (.t 13) 0, none⟩,
  ⟨(some 18), .extract (.t 13) 1, none⟩,
  ⟨(some 5), .move (.t 17), none⟩,
  ⟨(some 6), .move (.t 18), none⟩]
def b32_2 : SCode := .region r32_2
abbrev r32_3 : List MOper := [⟨(some 19), .move (.t 4), none⟩,
  ⟨(some 20), .bin .eql .num (.t 19) (.c (.int .i64 0)), none⟩,
  ⟨(some 21), .move (.t 20), none⟩,
  ⟨(some 22), .move (.t 6), (some (21, true))⟩,
  ⟨(some 23), .bin .eql .num (.t 22) (.c (.int .i64 0)), (some (21, true))⟩,
  ⟨(some 24), .pick (.t 21) (.t 23) (.c (.bool false)), none⟩,
  ⟨(some 25), .move (.t 24), none⟩,
  ⟨(some 26), .fieldAddr 0 (.t 1), (some (25, true))⟩,
  ⟨(some 27), .load1 (.t 26), (some (25, true))⟩,
  ⟨(some 28), .bin .eql .num (.t 27) (.c (.int .i64 1)), (some (25, true))⟩,
  ⟨(some 29), .move (.t 28), (some (25, true))⟩,
  ⟨(some 30), .fieldAddr 5 (.t 1), (some (29, false))⟩,
  ⟨(some 31), .loadN 8 (.t 30), (some (29, false))⟩,
  ⟨(some 32), .call 56 [(.t 31)], (some (29, false))⟩,
  ⟨(some 33), .pick (.t 29) (.c (.bool true)) (.t 32), (some (25, true))⟩,
  ⟨(some 34), .pick (.t 25) (.t 33) (.c (.bool false)), none⟩,
  ⟨(some 35), .move (.t 34), none⟩,
  ⟨(some 36), .fieldAddr 0 (.t 1), (some (35, true))⟩,
  ⟨(some 37), .load1 (.t 36), (some (35, true))⟩,
  ⟨(some 38), .bin .eql .num (.t 37) (.c (.int .i64 2)), (some (35, true))⟩,
  ⟨(some 39), .move (.t 38), (some (35, true))⟩,
  ⟨(some 40), .fieldAddr 13 (.t 1), (some (39, false))⟩,
  ⟨(some 41), .loadN 8 (.t 40), (some (39, false))⟩,
  ⟨(some 42), .call 57 [(.t 41)], (some (39, false))⟩,
  ⟨(some 43), .pick (.t 39) (.c (.bool true)) (.t 42), (some (35, true))⟩,
  ⟨(some 44), .pick (.t 35) (.t 43) (.c (.bool false)), none⟩,
  ⟨(some 2), .move (.t 44), none⟩]
def b32_3 : SCode := .region r32_3
def b32_4 : SCode := .seq b32_3 .ret
def b32_5 : SCode := .seq b32_2 b32_4
def b32_6 : SCode := .seq b32_1 b32_5
def b32_7 : SCode := .seq b32_0 b32_6
def s32 : SFunc := ⟨45, [.t 2], b32_7⟩
theorem c32 : sFn Tryz.prog 32 = some s32 := by kernel_rfl
theorem Z32 : XR b32_0 r32_0 ∧ XR b32_1 r32_1 ∧ XR b32_2 r32_2 ∧ XR b32_3 r32_3 ∧ XS b32_4 b32_3 .ret ∧ XS b32_5 b32_2 b32_4 ∧ XS b32_6 b32_1 b32_5 ∧ XS b32_7 b32_0 b32_6 ∧ XY s32 45 b32_7 [.t 2] := ⟨rfl, rfl, rfl, rfl, rfl, rfl, rfl, rfl, rfl⟩

end
set_option maxHeartbeats 4000000
set_option maxRecDepth 10000
structure NoteV where
  kind : Int
  from_ : Int
  to : Int
  epoch : Int
  tick : Int
  ask : AskV
  rep : RepV
  sf : List UInt8
  st : List UInt8
  l : List (List UInt8 × List UInt8)
  last : List LaV
  aep : Int
  sh : List ShV
def NoteV.cells (n : NoteV) : List AV := [.int .i64 n.kind, .int .i64 n.from_, .int .i64 n.to, .int .i64 n.epoch, .int .i64 n.tick,
  .int .i64 n.ask.do_, .int .i64 n.ask.client, .int .i64 n.ask.seq, .str n.ask.text, .str n.ask.val, .str n.ask.from_, .str n.ask.to, .int .i64 n.ask.limit,
  .int .i64 n.rep.client, .int .i64 n.rep.seq, .int .i64 n.rep.err, .bool n.rep.found, .str n.rep.val, .imm (recs n.rep.l) false false, .str n.rep.next, .bool n.rep.more,
  .str n.sf, .str n.st, .imm (n.l.map recC) false false, .imm (n.last.map LaV.cells) false false, .int .i64 n.aep, .imm (n.sh.map ShV.cells) false false]
theorem note_pure (n : NoteV) : (AV.agg n.cells).pure = true := by
  have h1 := recs_pure n.rep.l
  have h2 := rowsRec_pure n.l
  have h3 := rowsLa_pure n.last
  have h4 := rowsSh_pure n.sh
  simp only [AV.pure, NoteV.cells, pureL, h1, h2, h3, h4, Bool.and_self]
/-- What is not too great to be packed. -/
structure NoteV.sz (n : NoteV) : Prop where
  ask : total n.ask.texts ≤ 900000000
  rep : n.rep.bytes.length ≤ 900000000
  span : total [n.sf, n.st] ≤ 100000000
  l : n.l.length ≤ 1000000
  last : n.last.length ≤ 1000000
  sh : n.sh.length ≤ 1000000
  recz : ∀ x ∈ n.l, (txt2 x).length ≤ 900000000
  la : ∀ x ∈ n.last, x.rep.bytes.length ≤ 900000000
  shs : ∀ x ∈ n.sh, x.bytes.length ≤ 900000000
  recs : (n.l.flatMap fun x => txt (txt2 x)).length ≤ 100000000
  las : (n.last.flatMap fun x => txt x.bytes).length ≤ 100000000
  shsum : (n.sh.flatMap fun x => txt x.bytes).length ≤ 100000000
/-! Asks. -/
theorem packR_t {bs : List UInt8} : packR true bs = .tuple [.nilslice, .int .i64 1] := _root_.id rfl
theorem packR_f {bs : List UInt8} : packR false bs = .tuple [.imm (rws bs) false false, .int .i64 0] := _root_.id rfl
def askPD : List AV → AHeap → (AV → AHeap → Prop) → Prop
  | [.agg [.int .i64 a, .int .i64 b, .int .i64 c, .str t, .str v, .str f, .str o, .int .i64 l]], σ, K => total (AskV.texts ⟨a, b, c, t, v, f, o, l⟩) ≤ 900000000 ∧ K (packR (AskV.bad ⟨a, b, c, t, v, f, o, l⟩) (AskV.bytes ⟨a, b, c, t, v, f, o, l⟩)) σ
  | _, _, _ => False
theorem askPD_eq {a : AskV} {σ : AHeap} {K : AV → AHeap → Prop} : askPD [.agg [.int .i64 a.do_, .int .i64 a.client, .int .i64 a.seq, .str a.text, .str a.val, .str a.from_, .str a.to, .int .i64 a.limit]] σ K = (total a.texts ≤ 900000000 ∧ K (packR a.bad a.bytes) σ) := _root_.id rfl
theorem askPD_ok (args : List AV) (σ : AHeap) (K : AV → AHeap → Prop) (h : askPD args σ K) : Tri Tryz.prog 54 args σ K := by
  unfold askPD at h
  split at h
  · rename_i a b c t v f o l
    have := Tri.pureD (σ := σ) (Q := fun r => r = packR (AskV.bad ⟨a, b, c, t, v, f, o, l⟩) (AskV.bytes ⟨a, b, c, t, v, f, o, l⟩)) rfl ((ask_ok ⟨a, b, c, t, v, f, o, l⟩ h.1).mono fun r _ hr => ⟨by rw [hr.2]; exact packR_pure _ _, hr.2⟩)
    exact this.mono fun r σ' hr => by rw [hr.1, hr.2]; exact h.2
  · exact h.elim
def repPD : List AV → AHeap → (AV → AHeap → Prop) → Prop
  | [.agg [.int .i64 a, .int .i64 b, .int .i64 c, .bool t, .str v, .imm rs false false, .str o, .bool l]], σ, K => ∃ r : RepV, AV.agg r.cells = .agg [.int .i64 a, .int .i64 b, .int .i64 c, .bool t, .str v, .imm rs false false, .str o, .bool l] ∧ r.bytes.length ≤ 900000000 ∧ K (packR r.bad r.bytes) σ
  | _, _, _ => False
theorem recs_inj : ∀ {l m : List (List UInt8 × List UInt8)}, recs l = recs m → l = m
  | [], [], _ => rfl
  | [], _ :: _, h => by simp [recs] at h
  | _ :: _, [], h => by simp [recs] at h
  | p :: l, q :: m, h => by
    simp only [recs, List.map_cons, List.cons.injEq, AV.str.injEq, and_true] at h
    obtain ⟨⟨h1, h2⟩, h3⟩ := h
    rw [recs_inj (l := l) (m := m) h3, show p = q from Prod.ext h1 h2]
theorem rep_inj {r s : RepV} (h : AV.agg r.cells = .agg s.cells) : r = s := by
  cases r; cases s
  simp only [RepV.cells, AV.agg.injEq, List.cons.injEq, AV.int.injEq, AV.bool.injEq, AV.str.injEq, AV.imm.injEq, and_true, true_and] at h
  obtain ⟨h1, h2, h3, h4, h5, h6, h7, h8⟩ := h
  have h6 := recs_inj h6
  subst h1; subst h2; subst h3; subst h4; subst h5; subst h6; subst h7; subst h8
  rfl
theorem repPD_eq {a : RepV} {σ : AHeap} {K : AV → AHeap → Prop} : repPD [.agg [.int .i64 a.client, .int .i64 a.seq, .int .i64 a.err, .bool a.found, .str a.val, .imm (recs a.l) false false, .str a.next, .bool a.more]] σ K = (a.bytes.length ≤ 900000000 ∧ K (packR a.bad a.bytes) σ) := by
  apply propext
  refine ⟨fun ⟨r, h1, h2, h3⟩ => ?_, fun h => ⟨a, rfl, h.1, h.2⟩⟩
  have : r = a := rep_inj h1
  subst this
  exact ⟨h2, h3⟩
theorem repPD_ok (args : List AV) (σ : AHeap) (K : AV → AHeap → Prop) (h : repPD args σ K) : Tri Tryz.prog 55 args σ K := by
  unfold repPD at h
  split at h
  · obtain ⟨r, h1, h2, h3⟩ := h
    refine replyPD_ok _ _ _ ⟨r, by rw [h1], h2, h3⟩
  · exact h.elim
def noAskD : List AV → AHeap → (AV → AHeap → Prop) → Prop
  | [.agg [.int .i64 a, .int .i64 b, .int .i64 c, .str t, .str v, .str f, .str o, .int .i64 l]], σ, K => K (.bool (noAskB ⟨a, b, c, t, v, f, o, l⟩)) σ
  | _, _, _ => False
theorem noAskD_eq {a : AskV} {σ : AHeap} {K : AV → AHeap → Prop} : noAskD [.agg [.int .i64 a.do_, .int .i64 a.client, .int .i64 a.seq, .str a.text, .str a.val, .str a.from_, .str a.to, .int .i64 a.limit]] σ K = K (.bool (noAskB a)) σ := _root_.id rfl
theorem noAskD_ok (args : List AV) (σ : AHeap) (K : AV → AHeap → Prop) (h : noAskD args σ K) : Tri Tryz.prog 56 args σ K := by
  unfold noAskD at h
  split at h
  · rename_i a b c t v f o l
    exact (Tri.pureD rfl (noAsk_ok ⟨a, b, c, t, v, f, o, l⟩) σ).mono fun r σ' hr => by rw [hr.1, hr.2]; exact h
  · exact h.elim
def noRepD (args : List AV) (σ : AHeap) (K : AV → AHeap → Prop) : Prop := ∃ r : RepV, args = [.agg r.cells] ∧ K (.bool (noRepB r)) σ
theorem noRepD_eq {a : RepV} {σ : AHeap} {K : AV → AHeap → Prop} : noRepD [.agg [.int .i64 a.client, .int .i64 a.seq, .int .i64 a.err, .bool a.found, .str a.val, .imm (recs a.l) false false, .str a.next, .bool a.more]] σ K = K (.bool (noRepB a)) σ := by
  apply propext
  refine ⟨fun ⟨r, h1, h2⟩ => ?_, fun h => ⟨a, rfl, h⟩⟩
  have : a = r := rep_inj (List.cons.inj h1).1
  subst this
  exact h2
theorem noRepD_ok (args : List AV) (σ : AHeap) (K : AV → AHeap → Prop) (h : noRepD args σ K) : Tri Tryz.prog 57 args σ K := by
  obtain ⟨r, rfl, h⟩ := h
  exact (Tri.pureD (by simp only [pureL, rep_pure, Bool.and_self]) (noReply_ok r) σ).mono fun r σ' hr => by rw [hr.1, hr.2]; exact h
def asksB (n : NoteV) : Bool := !n.ask.bad && !n.rep.bad && (decide (n.kind = 1) || noAskB n.ask) && (decide (n.kind = 2) || noRepB n.rep)
def M1 : PCall := rowQ 54 askPD (rowQ 55 repPD (rowQ 56 noAskD (rowQ 57 noRepD noCall)))
theorem M1_app {f : FuncId} {args : List AV} {σ : AHeap} {K : AV → AHeap → Prop} : M1 f args σ K = rowQ 54 askPD (rowQ 55 repPD (rowQ 56 noAskD (rowQ 57 noRepD noCall))) f args σ K := _root_.id rfl
theorem M1_sound : Sound Tryz.prog M1 := rowQ_sound askPD_ok (rowQ_sound repPD_ok (rowQ_sound noAskD_ok (rowQ_sound noRepD_ok (noCall_sound _))))
theorem asks_ok (n : NoteV) (hs : n.sz) : Tri Tryz.prog 32 [.agg n.cells] [] fun r _ => r.pure = true ∧ r = .bool (asksB n) := by
  refine Tri.of_s c32 M1_sound ?_
  have s1 := hs.ask
  have s2 := hs.rep
  cases h1 : n.ask.bad <;> cases h2 : n.rep.bad <;> cases h3 : decide (n.kind = 1) <;> cases h4 : noAskB n.ask <;> cases h5 : decide (n.kind = 2) <;> cases h6 : noRepB n.rep <;>
    (simp only [NoteV.cells, M1_app, Z32, base1, baseE, ↓reduceIte, Nat.reduceAdd, Nat.reduceSub, Nat.reduceMul, Nat.reduceEqDiff, Nat.reduceLeDiff, Nat.reduceLT, Int.reduceLT, Int.reduceLE, Int.reduceEq, Int.reduceNe, Int.reduceToNat, Int.reduceAdd, Int.reduceSub, reduceCtorEq, Nat.reduceBEq, Nat.reduceBNe, askPD_eq, repPD_eq, noAskD_eq, noRepD_eq, s1, s2, h1, h2, h3, h4, h5, h6, packR_t, packR_f]; exact ⟨rfl, by simp only [asksB, h1, h2, h3, h4, h5, h6]; rfl⟩)
end Go.Proofs.YtgaopohogdinhaaGreatDoor.note

/- Which notes may be: what May answers, as a truth that is counted from the note. No condition. -/
set_option linter.unusedVariables false
set_option linter.unusedSimpArgs false
namespace Go.Proofs.YtgaopohogdinhaaGreatDoor.note
open Go.ChangeShapes Go.WideShapes Go.ChangeAt Go.RowKit Go.Gz
section
variable {C : PCall} {n0 : Nat} {R : MExit → Env → AHeap → Prop} {k : Cont} {e : Env} {σ : AHeap}
abbrev r58_0 : List MOper := [⟨(some 2), .box (.t 0), none⟩,
  ⟨(some 4), .move (.c (.bool false)), none⟩]
def b58_0 : SCode := .region r58_0
abbrev r58_1 : List MOper := [⟨(some 8), .move (.t 1), none⟩,
  ⟨(some 9), .bin .lss .num (.t 8) (.c (.int .i64 1)), none⟩,
  ⟨(some 10), .move (.t 9), none⟩,
  ⟨(some 11), .move (.t 1), (some (10, false))⟩,
  ⟨(some 12), .bin .gtr .num (.t 11) (.c (.int .i64 5)), (some (10, false))⟩,
  ⟨(some 13), .pick (.t 10) (.c (.bool true)) (.t 12), none⟩,
  ⟨(some 14), .move (.t 13), none⟩,
  ⟨(some 15), .fieldAddr 1 (.t 2), (some (14, false))⟩,
  ⟨(some 16), .load1 (.t 15), (some (14, false))⟩,
  ⟨(some 17), .lenSl (.t 16), (some (14, false))⟩,
  ⟨(some 18), .bin .lss .num (.t 17) (.c (.int .i64 1)), (some (14, false))⟩,
  ⟨(some 19), .pick (.t 14) (.c (.bool true)) (.t 18), none⟩,
  ⟨(some 20), .move (.t 19), none⟩,
  ⟨(some 21), .fieldAddr 1 (.t 2), (some (20, false))⟩,
  ⟨(some 22), .load1 (.t 21), (some (20, false))⟩,
  ⟨(some 23), .lenSl (.t 22), (some (20, false))⟩,
  ⟨(some 24), .bin .gtr .num (.t 23) (.c (.int .i64 12)), (some (20, false))⟩,
  ⟨(some 25), .pick (.t 20) (.c (.bool true)) (.t 24), none⟩,
  ⟨(some 26), .move (.t 25), none⟩,
  ⟨(some 27), .fieldAddr 0 (.t 2), (some (26, false))⟩,
  ⟨(some 28), .load1 (.t 27), (some (26, false))⟩,
  ⟨(some 29), .bin .lss .num (.t 28) (.c (.int .i64 1)), (some (26, false))⟩,
  ⟨(some 30), .pick (.t 26) (.c (.bool true)) (.t 29), none⟩]
def b58_1 : SCode := .region r58_1
abbrev r58_2 : List MOper := [⟨(some 4), .move (.c (.bool false)), none⟩]
def b58_2 : SCode := .region r58_2
def b58_3 : SCode := .seq b58_2 .ret
def b58_4 : SCode := .cond (.t 30) b58_3 .skip
def b58_5 : SCode := .seq b58_1 b58_4
abbrev r58_6 : List MOper := [⟨(some 5), .move (.c (.nilslice)), none⟩]
def b58_6 : SCode := .region r58_6
abbrev r58_7 : List MOper := [⟨(some 31), .fieldAddr 1 (.t 2), none⟩,
  ⟨(some 32), .load1 (.t 31), none⟩,
  ⟨(some 33), .lenSl (.t 32), none⟩,
  ⟨(some 34), .move (.c (.int .i64 0)), none⟩]
def b58_7 : SCode := .region r58_7
abbrev r58_8 : List MOper := [⟨(some 35), .bin .lss .num (.t 34) (.t 33), none⟩]
def b58_8 : SCode := .region r58_8
def b58_9 : SCode := .cond (.t 35) .skip (.exit 0)
abbrev r58_10 : List MOper := [⟨(some 36), .indexAddr 4 (.t 32) (.t 34), none⟩,
  ⟨(some 37), .loadN 4 (.t 36), none⟩,
  ⟨(some 7), .alloc [.str [], .str [], .int .i64 0, .int .i64 0], none⟩,
  ⟨none, .store 4 (.t 7) (.t 37), none⟩]
def b58_10 : SCode := .region r58_10
abbrev r58_11 : List MOper := [⟨(some 38), .fieldAddr 2 (.t 7), none⟩,
  ⟨(some 39), .load1 (.t 38), none⟩,
  ⟨(some 40), .bin .lss .num (.t 39) (.c (.int .i64 1)), none⟩,
  ⟨(some 41), .move (.t 40), none⟩,
  ⟨(some 42), .fieldAddr 2 (.t 7), (some (41, false))⟩,
  ⟨(some 43), .load1 (.t 42), (some (41, false))⟩,
  ⟨(some 44), .move (.t 1), (some (41, false))⟩,
  ⟨(some 45), .bin .gtr .num (.t 43) (.t 44), (some (41, false))⟩,
  ⟨(some 46), .pick (.t 41) (.c (.bool true)) (.t 45), none⟩,
  ⟨(some 47), .move (.t 46), none⟩,
  ⟨(some 48), .fieldAddr 3 (.t 7), (some (47, false))⟩,
  ⟨(some 49), .load1 (.t 48), (some (47, false))⟩,
  ⟨(some 50), .bin .lss .num (.t 49) (.c (.int .i64 1)), (some (47, false))⟩,
  ⟨(some 51), .pick (.t 47) (.c (.bool true)) (.t 50), none⟩,
  ⟨(some 52), .move (.t 51), none⟩,
  ⟨(some 53), .fieldAddr 3 (.t 7), (some (52, false))⟩,
  ⟨(some 54), .load1 (.t 53), (some (52, false))⟩,
  ⟨(some 55), .fieldAddr 0 (.t 2), (some (52, false))⟩,
  ⟨(some 56), .load1 (.t 55), (some (52, false))⟩,
  ⟨(some 57), .bin .gtr .num (.t 54) (.t 56), (some (52, false))⟩,
  ⟨(some 58), .pick (.t 52) (.c (.bool true)) (.t 57), none⟩]
def b58_11 : SCode := .region r58_11
abbrev r58_12 : List MOper := [⟨(some 4), .move (.c (.bool false)), none⟩]
def b58_12 : SCode := .region r58_12
def b58_13 : SCode := .seq b58_12 .ret
def b58_14 : SCode := .cond (.t 58) b58_13 .skip
def b58_15 : SCode := .seq b58_11 b58_14
abbrev r58_16 : List MOper := [⟨(some 59), .move (.t 5), none⟩,
  ⟨(some 60), .fieldAddr 0 (.t 7), none⟩,
  ⟨(some 61), .loadN 2 (.t 60), none⟩,
  ⟨(some 62), .buildSlice [.str [], .str []] 2 1 [(0, 2, (.t 61))], none⟩,
  ⟨(some 63), .append 2 32 (.t 59) (.t 62), none⟩,
  ⟨(some 5), .move (.t 63), none⟩]
def b58_16 : SCode := .region r58_16
def b58_17 : SCode := .seq b58_15 b58_16
def b58_18 : SCode := .seq b58_10 b58_17
def b58_19 : SCode := .block 1 b58_18
abbrev r58_20 : List MOper := [⟨(some 64), .bin .add .num (.t 34) (.c (.int .i64 1)), none⟩,
  ⟨(some 34), .move (.t 64), none⟩]
def b58_20 : SCode := .region r58_20
def b58_21 : SCode := .seq b58_19 b58_20
def b58_22 : SCode := .seq b58_9 b58_21
def b58_23 : SCode := .seq b58_8 b58_22
def b58_24 : SCode := .loop b58_23
def b58_25 : SCode := .block 0 b58_24
def b58_26 : SCode := .seq b58_7 b58_25
abbrev r58_27 : List MOper := [⟨(some 65), .move (.t 5), none⟩,
  ⟨(some 66), .call 110 [(.t 65)], none⟩,
  ⟨(some 4), .move (.t 66), none⟩]
def b58_27 : SCode := .region r58_27
def b58_28 : SCode := .seq b58_27 .ret
def b58_29 : SCode := .seq b58_26 b58_28
def b58_30 : SCode := .seq b58_6 b58_29
def b58_31 : SCode := .seq b58_5 b58_30
def b58_32 : SCode := .seq b58_0 b58_31
def s58 : SFunc := ⟨67, [.t 4], b58_32⟩
theorem c58 : sFn Tryz.prog 58 = some s58 := by kernel_rfl
theorem Z58 : XR b58_0 r58_0 ∧ XR b58_1 r58_1 ∧ XR b58_2 r58_2 ∧ XS b58_3 b58_2 .ret ∧ XC b58_4 (.t 30) b58_3 .skip ∧ XS b58_5 b58_1 b58_4 ∧ XR b58_6 r58_6 ∧ XR b58_7 r58_7 ∧ XR b58_8 r58_8 ∧ XC b58_9 (.t 35) .skip (.exit 0) ∧ XR b58_10 r58_10 ∧ XR b58_11 r58_11 ∧ XR b58_12 r58_12 ∧ XS b58_13 b58_12 .ret ∧ XC b58_14 (.t 58) b58_13 .skip ∧ XS b58_15 b58_11 b58_14 ∧ XR b58_16 r58_16 ∧ XS b58_17 b58_15 b58_16 ∧ XS b58_18 b58_10 b58_17 ∧ XB b58_19 1 b58_18 ∧ XR b58_20 r58_20 ∧ XS b58_21 b58_19 b58_20 ∧ XS b58_22 b58_9 b58_21 ∧ XS b58_23 b58_8 b58_22 ∧ XB b58_25 0 b58_24 ∧ XS b58_26 b58_7 b58_25 ∧ XR b58_27 r58_27 ∧ XS b58_28 b58_27 .ret ∧ XS b58_29 b58_26 b58_28 ∧ XS b58_30 b58_6 b58_29 ∧ XS b58_31 b58_5 b58_30 ∧ XS b58_32 b58_0 b58_31 ∧ XY s58 67 b58_32 [.t 4] := ⟨rfl, rfl, rfl, rfl, sC_cond, rfl, rfl, rfl, rfl, sC_cond, rfl, rfl, rfl, rfl, sC_cond, rfl, rfl, rfl, rfl, rfl, rfl, rfl, rfl, rfl, rfl, rfl, rfl, rfl, rfl, rfl, rfl, rfl, rfl⟩

end
set_option maxHeartbeats 4000000
set_option maxRecDepth 10000
theorem map_inj {α β : Type} {f : α → β} (hf : ∀ a b, f a = f b → a = b) : ∀ {l m : List α}, l.map f = m.map f → l = m
  | [], [], _ => rfl
  | [], _ :: _, h => by simp at h
  | _ :: _, [], h => by simp at h
  | p :: l, q :: m, h => by
    simp only [List.map_cons, List.cons.injEq] at h
    rw [map_inj hf h.2, hf _ _ h.1]
theorem recC_inj (a b : List UInt8 × List UInt8) (h : recC a = recC b) : a = b := by
  simp only [recC, List.cons.injEq, AV.str.injEq, and_true] at h
  exact Prod.ext h.1 h.2
theorem la_inj (a b : LaV) (h : a.cells = b.cells) : a = b := by
  simp only [LaV.cells, List.cons.injEq, AV.int.injEq, true_and] at h
  have := rep_inj (r := a.rep) (s := b.rep) (by rw [h.2])
  cases a; cases b
  simp only at h this
  rw [h.1, this]
theorem sh_inj (a b : ShV) (h : a.cells = b.cells) : a = b := by
  cases a; cases b
  simp only [ShV.cells, List.cons.injEq, AV.str.injEq, AV.int.injEq, true_and, and_true] at h
  obtain ⟨h1, h2, h3, h4⟩ := h
  rw [h1, h2, h3, h4]
theorem note_inj {n m : NoteV} (h : AV.agg n.cells = .agg m.cells) : n = m := by
  simp only [NoteV.cells, AV.agg.injEq, List.cons.injEq, AV.int.injEq, AV.bool.injEq, AV.str.injEq, AV.imm.injEq, and_true, true_and] at h
  obtain ⟨h1, h2, h3, h4, h5, a1, a2, a3, a4, a5, a6, a7, a8, r1, r2, r3, r4, r5, r6, r7, r8, s1, s2, l1, l2, e1, l3⟩ := h
  have r6 := recs_inj r6
  have l1 := map_inj recC_inj l1
  have l2 := map_inj la_inj l2
  have l3 := map_inj sh_inj l3
  obtain ⟨k, f, t, ep, ti, ⟨b1, b2, b3, b4, b5, b6, b7, b8⟩, ⟨c1, c2, c3, c4, c5, c6, c7, c8⟩, sf, st, l, la, ae, sh⟩ := n
  obtain ⟨k', f', t', ep', ti', ⟨b1', b2', b3', b4', b5', b6', b7', b8'⟩, ⟨c1', c2', c3', c4', c5', c6', c7', c8'⟩, sf', st', l', la', ae', sh'⟩ := m
  simp only at *
  subst h1 h2 h3 h4 h5 a1 a2 a3 a4 a5 a6 a7 a8 r1 r2 r3 r4 r5 r6 r7 r8 s1 s2 l1 l2 e1 l3
  rfl
/-! The atlas. -/
def shOk (ep : Int) (s : ShV) : Bool := !decide (s.node < 1) && (!decide (5 < s.node) && (!decide (s.epoch < 1) && !decide (ep < s.epoch)))
def ShV.span (s : ShV) : List UInt8 × List UInt8 := (s.from_, s.to)
def atlasB (ep : Int) (sh : List ShV) : Bool := !decide ((sh.length : Int) < 1) && (!decide (12 < (sh.length : Int)) && (!decide (ep < 1) && (sh.all (shOk ep) && wholeB (sh.map ShV.span))))
theorem grow_given {σ : AHeap} {Lv : AV} {w : Nat} {rows : List (List AV)} (h : Grow σ Lv w rows) (hp : pureLL rows = true) : ∃ d, Given σ d Lv (.imm rows false false) := by
  rcases h with ⟨rfl, rfl⟩ | ⟨d, rfl, h1, h2, h3⟩
  · exact ⟨0, .inr (.inl ⟨rfl, rfl⟩)⟩
  · exact ⟨d, .inr (.inr ⟨0, rows.length, none, w, _, rows, rfl, rfl, h1, sub_all (flat_len h2).symm, rfl, h2, hp⟩)⟩
def wholeLD (args : List AV) (σ : AHeap) (K : AV → AHeap → Prop) : Prop := ∃ (Lv : AV) (l : List (List UInt8 × List UInt8)), args = [Lv] ∧ Grow σ Lv 2 (l.map recC) ∧ l.length ≤ 1000000 ∧ ∀ σ', K (.bool (wholeB l)) σ'
theorem wholeLD_ok (args : List AV) (σ : AHeap) (K : AV → AHeap → Prop) (h : wholeLD args σ K) : Tri Tryz.prog 110 args σ K := by
  obtain ⟨Lv, l, rfl, hg, hl, h⟩ := h
  obtain ⟨d, hd⟩ := grow_given hg (rowsRec_pure l)
  exact (Tri.give (args := [Lv]) (args1 := [.imm (l.map recC) false false]) d rfl (given1 hd) (whole_ok l hl)).mono fun r σ' hr => by rw [hr.1]; exact h _
def A1 : PCall := rowQ 110 wholeLD noCall
theorem A1_app {f : FuncId} {args : List AV} {σ : AHeap} {K : AV → AHeap → Prop} : A1 f args σ K = rowQ 110 wholeLD noCall f args σ K := _root_.id rfl
theorem A1_sound : Sound Tryz.prog A1 := rowQ_sound wholeLD_ok (noCall_sound _)
def amI (ep : Int) (sh : List ShV) (n : Nat) (e : Env) (σ : AHeap) : Prop :=
  ∃ (i : Nat) (Lv : AV), i ≤ sh.length ∧ n = sh.length - i ∧ hget σ 0 = some [.int .i64 ep, .imm (sh.map ShV.cells) false false] ∧ Grow σ Lv 2 (((sh.take i).map ShV.span).map recC) ∧ LvD Lv ≠ some 0 ∧ (sh.take i).all (shOk ep) = true ∧
    e 1 = .int .i64 5 ∧ e 2 = .ptr 0 0 ∧ e 5 = Lv ∧ e 32 = .imm (sh.map ShV.cells) false false ∧ e 33 = .int .i64 (sh.length : Int) ∧ e 34 = .int .i64 (i : Int)
theorem am_step (ep : Int) (sh : List ShV) (hl : sh.length ≤ 1000000) (Q : AV → AHeap → Prop) (hF : sh.all (shOk ep) = false → ∀ σ, Q (.bool false) σ) (hT : sh.all (shOk ep) = true → ∀ σ, Q (.bool (wholeB (sh.map ShV.span))) σ) (n : Nat) (e : Env) (σ : AHeap) (h : amI ep sh n e σ) :
    sC A1 0 b58_23 (unw A1 0 (loopR A1 0 (RetQ [MRes.t 4] Q) (.block 0 (.seq b58_28 .fin)) (amI ep sh) n) .fin) e σ := by
  obtain ⟨i, Lv, hi, hn, g0, hLv, d0, hall, e1, e2, e5, e32, e33, e34⟩ := h
  have hml : (sh.map ShV.cells).length = sh.length := by simp
  have h0l := hget_lt g0
  rcases Nat.lt_or_ge i sh.length with hlt | hge
  · have hlt' : (i : Int) < (sh.length : Int) := by omega
    have hge0 : (0 : Int) ≤ (i : Int) := by omega
    obtain ⟨x, hx⟩ : ∃ x, sh[i]? = some x := ⟨_, List.getElem?_eq_getElem hlt⟩
    have hxx : (sh.map ShV.cells)[i]? = some [.str x.from_, .str x.to, .int .i64 x.node, .int .i64 x.epoch] := by simp [hx, ShV.cells]
    have hw : IntKind.wrap .i64 ((i : Int) + 1) = ((i + 1 : Nat) : Int) := by rw [Gz.wrap64 (by omega)]; omega
    have htk : sh.take (i + 1) = sh.take i ++ [x] := by rw [List.take_add_one, hx]; rfl
    have sn : ∀ c c' : List AV, hget (hset (hpush σ c) (List.length σ) c') (List.length σ) = some c' := fun c c' => set_same push_new'
    have s0 : ∀ c c' : List AV, hget (hset (hpush σ c) (List.length σ) c') 0 = some [.int .i64 ep, .imm (sh.map ShV.cells) false false] := fun c c' => al_frame g0
    have bad : shOk ep x = false → ∀ σ, Q (.bool false) σ := fun hb => hF (by
      rw [Bool.eq_false_iff]; intro ha
      have := List.all_eq_true.1 ha x (List.mem_of_getElem? hx)
      rw [hb] at this; cases this)
    cases h1 : decide (x.node < 1) with
    | true =>
      simp only [A1_app, Z58, base1, ↓reduceIte, Nat.reduceAdd, Nat.reduceSub, Nat.reduceMul, Nat.reduceEqDiff, Nat.reduceLeDiff, Nat.reduceLT, Int.reduceLT, Int.reduceLE, Int.reduceEq, Int.reduceNe, Int.reduceToNat, Int.reduceAdd, Int.reduceSub, reduceCtorEq, Nat.reduceBEq, Nat.reduceBNe, loopR_exit, loopR_ret, e1, e2, e5, e32, e33, e34, hlt', hlt, hge0, hxx, hml, Int.toNat_natCast, push_new', sn, s0, h1]
      exact bad (by simp only [shOk, h1]; rfl) _
    | false =>
    cases h2 : decide (5 < x.node) with
    | true =>
      simp only [A1_app, Z58, base1, ↓reduceIte, Nat.reduceAdd, Nat.reduceSub, Nat.reduceMul, Nat.reduceEqDiff, Nat.reduceLeDiff, Nat.reduceLT, Int.reduceLT, Int.reduceLE, Int.reduceEq, Int.reduceNe, Int.reduceToNat, Int.reduceAdd, Int.reduceSub, reduceCtorEq, Nat.reduceBEq, Nat.reduceBNe, loopR_exit, loopR_ret, e1, e2, e5, e32, e33, e34, hlt', hlt, hge0, hxx, hml, Int.toNat_natCast, push_new', sn, s0, h1, h2]
      exact bad (by simp only [shOk, h1, h2]; rfl) _
    | false =>
    cases h3 : decide (x.epoch < 1) with
    | true =>
      simp only [A1_app, Z58, base1, ↓reduceIte, Nat.reduceAdd, Nat.reduceSub, Nat.reduceMul, Nat.reduceEqDiff, Nat.reduceLeDiff, Nat.reduceLT, Int.reduceLT, Int.reduceLE, Int.reduceEq, Int.reduceNe, Int.reduceToNat, Int.reduceAdd, Int.reduceSub, reduceCtorEq, Nat.reduceBEq, Nat.reduceBNe, loopR_exit, loopR_ret, e1, e2, e5, e32, e33, e34, hlt', hlt, hge0, hxx, hml, Int.toNat_natCast, push_new', sn, s0, h1, h2, h3]
      exact bad (by simp only [shOk, h1, h2, h3]; rfl) _
    | false =>
    cases h4 : decide (ep < x.epoch) with
    | true =>
      simp only [A1_app, Z58, base1, ↓reduceIte, Nat.reduceAdd, Nat.reduceSub, Nat.reduceMul, Nat.reduceEqDiff, Nat.reduceLeDiff, Nat.reduceLT, Int.reduceLT, Int.reduceLE, Int.reduceEq, Int.reduceNe, Int.reduceToNat, Int.reduceAdd, Int.reduceSub, reduceCtorEq, Nat.reduceBEq, Nat.reduceBNe, loopR_exit, loopR_ret, e1, e2, e5, e32, e33, e34, hlt', hlt, hge0, hxx, hml, Int.toNat_natCast, push_new', sn, s0, h1, h2, h3, h4]
      exact bad (by simp only [shOk, h1, h2, h3, h4]; rfl) _
    | false =>
    generalize hz : ([.str [], .str [], .int .i64 0, .int .i64 0] : List AV) = z at sn s0
    have v1 := grow_frame hLv (τ := hset (hpush σ z) σ.length x.cells) fun j c hj hd => al_frame hj
    have hs3 : (hset (hpush σ z) σ.length x.cells).length = σ.length + 1 := by rw [set_len, push_len]
    obtain ⟨v, τ, a1, a2, a3, a4, a5⟩ := grow_one (b := 32) (by decide) v1 (by simp; omega) (recC x.span) rfl rfl
    obtain ⟨q0, u0⟩ := a4 0 _ (al_frame g0) d0
    have lc := grow_cell hLv
    rw [hs3] at a1
    simp only [recC, ShV.span, ShV.cells] at a1
    subst hz
    simp only [A1_app, Z58, base1, ↓reduceIte, Nat.reduceAdd, Nat.reduceSub, Nat.reduceMul, Nat.reduceEqDiff, Nat.reduceLeDiff, Nat.reduceLT, Int.reduceLT, Int.reduceLE, Int.reduceEq, Int.reduceNe, Int.reduceToNat, Int.reduceAdd, Int.reduceSub, reduceCtorEq, Nat.reduceBEq, Nat.reduceBNe, loopR_exit, loopR_ret, e1, e2, e5, e32, e33, e34, hlt', hlt, hge0, hxx, hml, Int.toNat_natCast, push_new', sn, s0, h1, h2, h3, h4, set_len, push_len, a1, a2, a3, hw]
    rw [loopR_normal]
    refine ⟨sh.length - (i + 1), _, _, by omega, .refl _ _ _, i + 1, v, hlt, rfl, q0, ?_, u0, ?_, ?_, ?_, ?_, ?_, ?_, ?_⟩
    · rw [htk]; simpa using a5
    · rw [htk, List.all_append, hall]
      simp only [List.all_cons, List.all_nil, shOk, h1, h2, h3, h4]; rfl
    all_goals simp only [putD_some, putD_none, Nat.reduceEqDiff, ↓reduceIte, e1, e2, e5, e32, e33, e34, hw]
  · have hlt' : ¬ (i : Int) < (sh.length : Int) := by omega
    have hie : i = sh.length := by omega
    subst hie
    rw [List.take_length] at hLv hall
    simp only [A1_app, Z58, base1, ↓reduceIte, Nat.reduceAdd, Nat.reduceSub, Nat.reduceMul, Nat.reduceEqDiff, Nat.reduceLeDiff, Nat.reduceLT, Int.reduceLT, Int.reduceLE, Int.reduceEq, Int.reduceNe, Int.reduceToNat, Int.reduceAdd, Int.reduceSub, reduceCtorEq, Nat.reduceBEq, Nat.reduceBNe, loopR_exit, loopR_ret, e1, e2, e5, e32, e33, e34, hlt']
    exact ⟨Lv, sh.map ShV.span, rfl, hLv, by simpa using hl, fun σ' => by simp only [A1_app, Z58, base1, ↓reduceIte, Nat.reduceAdd, Nat.reduceSub, Nat.reduceMul, Nat.reduceEqDiff, Nat.reduceLeDiff, Nat.reduceLT, Int.reduceLT, Int.reduceLE, Int.reduceEq, Int.reduceNe, Int.reduceToNat, Int.reduceAdd, Int.reduceSub, reduceCtorEq, Nat.reduceBEq, Nat.reduceBNe]; exact hT hall σ'⟩
theorem atlas_ok (ep : Int) (sh : List ShV) (hl : sh.length ≤ 1000000) : Tri Tryz.prog 58 [.agg [.int .i64 ep, .imm (sh.map ShV.cells) false false], .int .i64 5] [] fun r _ => r.pure = true ∧ r = .bool (atlasB ep sh) := by
  refine Tri.of_s c58 A1_sound ?_
  have hml : (sh.map ShV.cells).length = sh.length := by simp
  cases h1 : decide ((sh.length : Int) < 1) with
  | true => simp only [A1_app, Z58, base1, baseE, ↓reduceIte, Nat.reduceAdd, Nat.reduceSub, Nat.reduceMul, Nat.reduceEqDiff, Nat.reduceLeDiff, Nat.reduceLT, Int.reduceLT, Int.reduceLE, Int.reduceEq, Int.reduceNe, Int.reduceToNat, Int.reduceAdd, Int.reduceSub, reduceCtorEq, Nat.reduceBEq, Nat.reduceBNe, hml, h1]; exact ⟨rfl, by simp only [atlasB, h1]; rfl⟩
  | false =>
  cases h2 : decide (12 < (sh.length : Int)) with
  | true => simp only [A1_app, Z58, base1, baseE, ↓reduceIte, Nat.reduceAdd, Nat.reduceSub, Nat.reduceMul, Nat.reduceEqDiff, Nat.reduceLeDiff, Nat.reduceLT, Int.reduceLT, Int.reduceLE, Int.reduceEq, Int.reduceNe, Int.reduceToNat, Int.reduceAdd, Int.reduceSub, reduceCtorEq, Nat.reduceBEq, Nat.reduceBNe, hml, h1, h2]; exact ⟨rfl, by simp only [atlasB, h1, h2]; rfl⟩
  | false =>
  cases h3 : decide (ep < 1) with
  | true => simp only [A1_app, Z58, base1, baseE, ↓reduceIte, Nat.reduceAdd, Nat.reduceSub, Nat.reduceMul, Nat.reduceEqDiff, Nat.reduceLeDiff, Nat.reduceLT, Int.reduceLT, Int.reduceLE, Int.reduceEq, Int.reduceNe, Int.reduceToNat, Int.reduceAdd, Int.reduceSub, reduceCtorEq, Nat.reduceBEq, Nat.reduceBNe, hml, h1, h2, h3]; exact ⟨rfl, by simp only [atlasB, h1, h2, h3]; rfl⟩
  | false =>
  simp only [A1_app, Z58, base1, baseE, ↓reduceIte, Nat.reduceAdd, Nat.reduceSub, Nat.reduceMul, Nat.reduceEqDiff, Nat.reduceLeDiff, Nat.reduceLT, Int.reduceLT, Int.reduceLE, Int.reduceEq, Int.reduceNe, Int.reduceToNat, Int.reduceAdd, Int.reduceSub, reduceCtorEq, Nat.reduceBEq, Nat.reduceBNe, hml, h1, h2, h3]
  refine sC_inv (a := b58_23) (amI ep sh) sh.length _ _ (.refl _ _ _) ⟨0, .nilslice, Nat.zero_le _, rfl, rfl, .inl ⟨rfl, rfl⟩, by simp [LvD], rfl, rfl, rfl, rfl, rfl, rfl, rfl⟩ (am_step ep sh hl _ (fun hf σ => ⟨rfl, ?_⟩) (fun ht σ => ⟨rfl, ?_⟩))
  · simp only [atlasB, h1, h2, h3, hf]; rfl
  · simp only [atlasB, h1, h2, h3, ht]; rfl
end Go.Proofs.YtgaopohogdinhaaGreatDoor.note

/- Which notes may be: what May answers, as a truth that is counted from the note. No condition. -/
set_option linter.unusedVariables false
set_option linter.unusedSimpArgs false
namespace Go.Proofs.YtgaopohogdinhaaGreatDoor.note
open Go.ChangeShapes Go.WideShapes Go.ChangeAt Go.RowKit Go.Gz
section
variable {C : PCall} {n0 : Nat} {R : MExit → Env → AHeap → Prop} {k : Cont} {e : Env} {σ : AHeap}
abbrev r16_0 : List MOper := [⟨(some 1), .box (.t 0), none⟩,
  ⟨(some 2), .move (.c (.bool false)), none⟩]
def b16_0 : SCode := .region r16_0
abbrev r16_1 : List MOper := [⟨(some 3), .fieldAddr 0 (.t 1), none⟩,
  ⟨(some 4), .load1 (.t 3), none⟩,
  ⟨(some 5), .bin .lss .num (.t 4) (.c (.int .i64 1)), none⟩,
  ⟨(some 6), .move (.t 5), none⟩,
  ⟨(some 7), .fieldAddr 0 (.t 1), (some (6, false))⟩,
  ⟨(some 8), .load1 (.t 7), (some (6, false))⟩,
  ⟨(some 9), .bin .gtr .num (.t 8) (.c (.int .i64 12)), (some (6, false))⟩,
  ⟨(some 10), .pick (.t 6) (.c (.bool true)) (.t 9), none⟩,
  ⟨(some 11), .move (.t 10), none⟩,
  ⟨(some 12), .fieldAddr 1 (.t 1), (some (11, false))⟩,
  ⟨(some 13), .load1 (.t 12), (some (11, false))⟩,
  ⟨(some 14), .call 29 [(.t 13)], (some (11, false))⟩,
  ⟨(some 15), .un .not (.t 14), (some (11, false))⟩,
  ⟨(some 16), .pick (.t 11) (.c (.bool true)) (.t 15), none⟩,
  ⟨(some 17), .move (.t 16), none⟩,
  ⟨(some 18), .fieldAddr 2 (.t 1), (some (17, false))⟩,
  ⟨(some 19), .load1 (.t 18), (some (17, false))⟩,
  ⟨(some 20), .call 29 [(.t 19)], (some (17, false))⟩,
  ⟨(some 21), .un .not (.t 20), (some (17, false))⟩,
  ⟨(some 22), .pick (.t 17) (.c (.bool true)) (.t 21), none⟩,
  ⟨(some 23), .move (.t 22), none⟩,
  ⟨(some 24), .fieldAddr 1 (.t 1), (some (23, false))⟩,
  ⟨(some 25), .load1 (.t 24), (some (23, false))⟩,
  ⟨(some 26), .fieldAddr 2 (.t 1), (some (23, false))⟩,
  ⟨(some 27), .load1 (.t 26), (some (23, false))⟩,
  ⟨(some 28), .bin .eql .num (.t 25) (.t 27), (some (23, false))⟩,
  ⟨(some 29), .pick (.t 23) (.c (.bool true)) (.t 28), none⟩,
  ⟨(some 30), .move (.t 29), none⟩,
  ⟨(some 31), .fieldAddr 3 (.t 1), (some (30, false))⟩,
  ⟨(some 32), .load1 (.t 31), (some (30, false))⟩,
  ⟨(some 33), .call 30 [(.t 32)], (some (30, false))⟩,
  ⟨(some 34), .un .not (.t 33), (some (30, false))⟩,
  ⟨(some 35), .pick (.t 30) (.c (.bool true)) (.t 34), none⟩,
  ⟨(some 36), .move (.t 35), none⟩,
  ⟨(some 37), .fieldAddr 4 (.t 1), (some (36, false))⟩,
  ⟨(some 38), .load1 (.t 37), (some (36, false))⟩,
  ⟨(some 39), .call 30 [(.t 38)], (some (36, false))⟩,
  ⟨(some 40), .un .not (.t 39), (some (36, false))⟩,
  ⟨(some 41), .pick (.t 36) (.c (.bool true)) (.t 40), none⟩]
def b16_1 : SCode := .region r16_1
abbrev r16_2 : List MOper := [⟨(some 2), .move (.c (.bool false)), none⟩]
def b16_2 : SCode := .region r16_2
def b16_3 : SCode := .seq b16_2 .ret
def b16_4 : SCode := .cond (.t 41) b16_3 .skip
def b16_5 : SCode := .seq b16_1 b16_4
abbrev r16_6 : List MOper := [⟨(some 42), .fieldAddr 4 (.t 1), none⟩,
  ⟨(some 43), .load1 (.t 42), none⟩,
  ⟨(some 44), .bin .eql .num (.t 43) (.c (.int .i64 0)), none⟩,
  ⟨(some 45), .move (.t 44), none⟩,
  ⟨(some 46), .fieldAddr 0 (.t 1), (some (45, false))⟩,
  ⟨(some 47), .load1 (.t 46), (some (45, false))⟩,
  ⟨(some 48), .buildSlice [.int .i64 0] 1 2 [(0, 1, (.c (.int .i64 5))), (1, 1, (.c (.int .i64 6)))], (some (45, false))⟩,
  ⟨(some 49), .call 31 [(.t 47), (.t 48)], (some (45, false))⟩,
  ⟨(some 50), .pick (.t 45) (.c (.bool true)) (.t 49), none⟩,
  ⟨(some 51), .move (.t 50), none⟩,
  ⟨(some 52), .loadN 27 (.t 1), (some (51, true))⟩,
  ⟨(some 53), .call 32 [(.t 52)], (some (51, true))⟩,
  ⟨(some 54), .pick (.t 51) (.t 53) (.c (.bool false)), none⟩,
  ⟨(some 55), .move (.t 54), none⟩,
  ⟨(some 56), .loadN 27 (.t 1), (some (55, true))⟩,
  ⟨(some 57), .call 33 [(.t 56)], (some (55, true))⟩,
  ⟨(some 58), .pick (.t 55) (.t 57) (.c (.bool false)), none⟩,
  ⟨(some 59), .move (.t 58), none⟩,
  ⟨(some 60), .loadN 27 (.t 1), (some (59, true))⟩,
  ⟨(some 61), .call 34 [(.t 60)], (some (59, true))⟩,
  ⟨(some 62), .pick (.t 59) (.t 61) (.c (.bool false)), none⟩,
  ⟨(some 2), .move (.t 62), none⟩]
def b16_6 : SCode := .region r16_6
def b16_7 : SCode := .seq b16_6 .ret
def b16_8 : SCode := .seq b16_5 b16_7
def b16_9 : SCode := .seq b16_0 b16_8
def s16 : SFunc := ⟨63, [.t 2], b16_9⟩
theorem c16 : sFn Tryz.prog 16 = some s16 := by kernel_rfl
theorem Z16 : XR b16_0 r16_0 ∧ XR b16_1 r16_1 ∧ XR b16_2 r16_2 ∧ XS b16_3 b16_2 .ret ∧ XC b16_4 (.t 41) b16_3 .skip ∧ XS b16_5 b16_1 b16_4 ∧ XR b16_6 r16_6 ∧ XS b16_7 b16_6 .ret ∧ XS b16_8 b16_5 b16_7 ∧ XS b16_9 b16_0 b16_8 ∧ XY s16 63 b16_9 [.t 2] := ⟨rfl, rfl, rfl, rfl, sC_cond, rfl, rfl, rfl, rfl, rfl, rfl⟩
abbrev r33_0 : List MOper := [⟨(some 1), .box (.t 0), none⟩,
  ⟨(some 2), .move (.c (.bool false)), none⟩]
def b33_0 : SCode := .region r33_0
abbrev r33_1 : List MOper := [⟨(some 8), .fieldAddr 24 (.t 1), none⟩,
  ⟨(some 9), .load1 (.t 8), none⟩,
  ⟨(some 10), .lenSl (.t 9), none⟩,
  ⟨(some 11), .move (.c (.int .i64 0)), none⟩]
def b33_1 : SCode := .region r33_1
abbrev r33_2 : List MOper := [⟨(some 12), .bin .lss .num (.t 11) (.t 10), none⟩]
def b33_2 : SCode := .region r33_2
def b33_3 : SCode := .cond (.t 12) .skip (.exit 0)
abbrev r33_4 : List MOper := [⟨(some 13), .indexAddr 9 (.t 9) (.t 11), none⟩,
  ⟨(some 14), .loadN 9 (.t 13), none⟩,
  ⟨(some 4), .alloc [.int .i64 0, .int .i64 0, .int .i64 0, .int .i64 0, .bool false, .str [], .nilslice, .str [], .bool false], none⟩,
  ⟨none, .store 9 (.t 4) (.t 14), none⟩]
def b33_4 : SCode := .region r33_4
abbrev r33_5 : List MOper := [⟨(some 16), .fieldAddr 1 (.t 4), none⟩,
  ⟨(some 17), .loadN 8 (.t 16), none⟩,
  ⟨(some 18), .call 55 [(.t 17)], none⟩,
  ⟨(some 15), .move (.t 18), none⟩,
  ⟨(some 19), .extract (.t 15) 0, none⟩,
  ⟨(some 20), .extract (.t 15) 1, none⟩,
  ⟨(some 5), .move (.t 19), none⟩,
  ⟨(some 6), .move (.t 20), none⟩]
def b33_5 : SCode := .region r33_5
abbrev r33_6 : List MOper := [⟨(some 21), .move (.t 6), none⟩,
  ⟨(some 22), .bin .neq .num (.t 21) (.c (.int .i64 0)), none⟩,
  ⟨(some 23), .move (.t 22), none⟩,
  ⟨(some 24), .fieldAddr 0 (.t 4), (some (23, false))⟩,
  ⟨(some 25), .load1 (.t 24), (some (23, false))⟩,
  ⟨(some 26), .call 30 [(.t 25)], (some (23, false))⟩,
  ⟨(some 27), .un .not (.t 26), (some (23, false))⟩,
  ⟨(some 28), .pick (.t 23) (.c (.bool true)) (.t 27), none⟩]
def b33_6 : SCode := .region r33_6
abbrev r33_7 : List MOper := [⟨(some 2), .move (.c (.bool false)), none⟩]
def b33_7 : SCode := .region r33_7
def b33_8 : SCode := .seq b33_7 .ret
def b33_9 : SCode := .cond (.t 28) b33_8 .skip
def b33_10 : SCode := .seq b33_6 b33_9
def b33_11 : SCode := .seq b33_5 b33_10
def b33_12 : SCode := .seq b33_4 b33_11
def b33_13 : SCode := .block 1 b33_12
abbrev r33_14 : List MOper := [⟨(some 29), .bin .add .num (.t 11) (.c (.int .i64 1)), none⟩,
  ⟨(some 11), .move (.t 29), none⟩]
def b33_14 : SCode := .region r33_14
def b33_15 : SCode := .seq b33_13 b33_14
def b33_16 : SCode := .seq b33_3 b33_15
def b33_17 : SCode := .seq b33_2 b33_16
def b33_18 : SCode := .loop b33_17
def b33_19 : SCode := .block 0 b33_18
def b33_20 : SCode := .seq b33_1 b33_19
abbrev r33_21 : List MOper := [⟨(some 30), .fieldAddr 23 (.t 1), none⟩,
  ⟨(some 31), .load1 (.t 30), none⟩,
  ⟨(some 32), .lenSl (.t 31), none⟩,
  ⟨(some 33), .bin .eql .num (.t 32) (.c (.int .i64 0)), none⟩,
  ⟨(some 34), .move (.t 33), none⟩,
  ⟨(some 35), .fieldAddr 24 (.t 1), (some (34, true))⟩,
  ⟨(some 36), .load1 (.t 35), (some (34, true))⟩,
  ⟨(some 37), .lenSl (.t 36), (some (34, true))⟩,
  ⟨(some 38), .bin .eql .num (.t 37) (.c (.int .i64 0)), (some (34, true))⟩,
  ⟨(some 39), .pick (.t 34) (.t 38) (.c (.bool false)), none⟩,
  ⟨(some 40), .move (.t 39), none⟩,
  ⟨(some 41), .fieldAddr 0 (.t 1), (some (40, false))⟩,
  ⟨(some 42), .load1 (.t 41), (some (40, false))⟩,
  ⟨(some 43), .buildSlice [.int .i64 0] 1 2 [(0, 1, (.c (.int .i64 8))), (1, 1, (.c (.int .i64 9)))], (some (40, false))⟩,
  ⟨(some 44), .call 31 [(.t 42), (.t 43)], (some (40, false))⟩,
  ⟨(some 45), .pick (.t 40) (.c (.bool true)) (.t 44), none⟩,
  ⟨(some 7), .move (.t 45), none⟩]
def b33_21 : SCode := .region r33_21
abbrev r33_22 : List MOper := [⟨(some 46), .move (.t 7), none⟩,
  ⟨(some 47), .move (.t 46), none⟩,
  ⟨(some 48), .fieldAddr 3 (.t 1), (some (47, true))⟩,
  ⟨(some 49), .load1 (.t 48), (some (47, true))⟩,
  ⟨(some 50), .bin .eql .num (.t 49) (.c (.int .i64 0)), (some (47, true))⟩,
  ⟨(some 51), .move (.t 50), (some (47, true))⟩,
  ⟨(some 52), .fieldAddr 21 (.t 1), (some (51, true))⟩,
  ⟨(some 53), .loadN 2 (.t 52), (some (51, true))⟩,
  ⟨(some 54), .build [.str [], .str []] [], (some (51, true))⟩,
  ⟨(some 55), .bin .eql (.flat [.s, .s]) (.t 53) (.t 54), (some (51, true))⟩,
  ⟨(some 56), .pick (.t 51) (.t 55) (.c (.bool false)), (some (47, true))⟩,
  ⟨(some 57), .move (.t 56), (some (47, true))⟩,
  ⟨(some 58), .fieldAddr 0 (.t 1), (some (57, false))⟩,
  ⟨(some 59), .load1 (.t 58), (some (57, false))⟩,
  ⟨(some 60), .buildSlice [.int .i64 0] 1 6 [(0, 1, (.c (.int .i64 7))), (1, 1, (.c (.int .i64 11))), (2, 1, (.c (.int .i64 10))), (3, 1, (.c (.int .i64 12))), (4, 1, (.c (.int .i64 8))), (5, 1, (.c (.int .i64 9)))], (some (57, false))⟩,
  ⟨(some 61), .call 31 [(.t 59), (.t 60)], (some (57, false))⟩,
  ⟨(some 62), .pick (.t 57) (.c (.bool true)) (.t 61), (some (47, true))⟩,
  ⟨(some 63), .pick (.t 47) (.t 62) (.c (.bool false)), none⟩,
  ⟨(some 2), .move (.t 63), none⟩]
def b33_22 : SCode := .region r33_22
def b33_23 : SCode := .seq b33_22 .ret
def b33_24 : SCode := .seq b33_21 b33_23
def b33_25 : SCode := .seq b33_20 b33_24
def b33_26 : SCode := .seq b33_0 b33_25
def s33 : SFunc := ⟨64, [.t 2], b33_26⟩
theorem c33 : sFn Tryz.prog 33 = some s33 := by kernel_rfl
theorem Z33 : XR b33_0 r33_0 ∧ XR b33_1 r33_1 ∧ XR b33_2 r33_2 ∧ XC b33_3 (.t 12) .skip (.exit 0) ∧ XR b33_4 r33_4 ∧ XR b33_5 r33_5 ∧ XR b33_6 r33_6 ∧ XR b33_7 r33_7 ∧ XS b33_8 b33_7 .ret ∧ XC b33_9 (.t 28) b33_8 .skip ∧ XS b33_10 b33_6 b33_9 ∧ XS b33_11 b33_5 b33_10 ∧ XS b33_12 b33_4 b33_11 ∧ XB b33_13 1 b33_12 ∧ XR b33_14 r33_14 ∧ XS b33_15 b33_13 b33_14 ∧ XS b33_16 b33_3 b33_15 ∧ XS b33_17 b33_2 b33_16 ∧ XB b33_19 0 b33_18 ∧ XS b33_20 b33_1 b33_19 ∧ XR b33_21 r33_21 ∧ XR b33_22 r33_22 ∧ XS b33_23 b33_22 .ret ∧ XS b33_24 b33_21 b33_23 ∧ XS b33_25 b33_20 b33_24 ∧ XS b33_26 b33_0 b33_25 ∧ XY s33 64 b33_26 [.t 2] := ⟨rfl, rfl, rfl, sC_cond, rfl, rfl, rfl, rfl, rfl, sC_cond, rfl, rfl, rfl, rfl, rfl, rfl, rfl, rfl, rfl, rfl, rfl, rfl, rfl, rfl, rfl, rfl, rfl⟩
abbrev r34_0 : List MOper := [⟨(some 1), .box (.t 0), none⟩,
  ⟨(some 2), .move (.c (.bool false)), none⟩]
def b34_0 : SCode := .region r34_0
abbrev r34_1 : List MOper := [⟨(some 3), .fieldAddr 0 (.t 1), none⟩,
  ⟨(some 4), .load1 (.t 3), none⟩,
  ⟨(some 5), .buildSlice [.int .i64 0] 1 2 [(0, 1, (.c (.int .i64 4))), (1, 1, (.c (.int .i64 6)))], none⟩,
  ⟨(some 6), .call 31 [(.t 4), (.t 5)], none⟩]
def b34_1 : SCode := .region r34_1
abbrev r34_2 : List MOper := [⟨(some 7), .fieldAddr 25 (.t 1), none⟩,
  ⟨(some 8), .loadN 2 (.t 7), none⟩,
  ⟨(some 9), .call 58 [(.t 8), (.c (.int .i64 5))], none⟩,
  ⟨(some 10), .move (.t 9), none⟩,
  ⟨(some 11), .fieldAddr 25 (.t 1), (some (10, true))⟩,
  ⟨(some 12), .fieldAddr 0 (.t 11), (some (10, true))⟩,
  ⟨(some 13), .load1 (.t 12), (some (10, true))⟩,
  ⟨(some 14), .call 30 [(.t 13)], (some (10, true))⟩,
  ⟨(some 15), .pick (.t 10) (.t 14) (.c (.bool false)), none⟩,
  ⟨(some 2), .move (.t 15), none⟩]
def b34_2 : SCode := .region r34_2
def b34_3 : SCode := .seq b34_2 .ret
def b34_4 : SCode := .cond (.t 6) b34_3 .skip
def b34_5 : SCode := .seq b34_1 b34_4
abbrev r34_6 : List MOper := [⟨(some 16), .fieldAddr 25 (.t 1), none⟩,
  ⟨(some 17), .fieldAddr 0 (.t 16), none⟩,
  ⟨(some 18), .load1 (.t 17), none⟩,
  ⟨(some 19), .bin .eql .num (.t 18) (.c (.int .i64 0)), none⟩,
  ⟨(some 20), .move (.t 19), none⟩,
  ⟨(some 21), .fieldAddr 25 (.t 1), (some (20, true))⟩,
  ⟨(some 22), .fieldAddr 1 (.t 21), (some (20, true))⟩,
  ⟨(some 23), .load1 (.t 22), (some (20, true))⟩,
  ⟨(some 24), .lenSl (.t 23), (some (20, true))⟩,
  ⟨(some 25), .bin .eql .num (.t 24) (.c (.int .i64 0)), (some (20, true))⟩,
  ⟨(some 26), .pick (.t 20) (.t 25) (.c (.bool false)), none⟩,
  ⟨(some 2), .move (.t 26), none⟩]
def b34_6 : SCode := .region r34_6
def b34_7 : SCode := .seq b34_6 .ret
def b34_8 : SCode := .seq b34_5 b34_7
def b34_9 : SCode := .seq b34_0 b34_8
def s34 : SFunc := ⟨27, [.t 2], b34_9⟩
theorem c34 : sFn Tryz.prog 34 = some s34 := by kernel_rfl
theorem Z34 : XR b34_0 r34_0 ∧ XR b34_1 r34_1 ∧ XR b34_2 r34_2 ∧ XS b34_3 b34_2 .ret ∧ XC b34_4 (.t 6) b34_3 .skip ∧ XS b34_5 b34_1 b34_4 ∧ XR b34_6 r34_6 ∧ XS b34_7 b34_6 .ret ∧ XS b34_8 b34_5 b34_7 ∧ XS b34_9 b34_0 b34_8 ∧ XY s34 27 b34_9 [.t 2] := ⟨rfl, rfl, rfl, rfl, sC_cond, rfl, rfl, rfl, rfl, rfl, rfl⟩

end
set_option maxHeartbeats 4000000
set_option maxRecDepth 10000
/-! Spans. -/
def okLa (x : LaV) : Bool := !x.rep.bad && numB x.seq
def rowsB (n : NoteV) : Bool := (decide ((n.l.length : Int) = 0) && decide ((n.last.length : Int) = 0)) || [8, 9].contains n.kind
def spanB (n : NoteV) : Bool := (decide (n.epoch = 0) && (decide (n.sf = []) && decide (n.st = []))) || [7, 11, 10, 12, 8, 9].contains n.kind
def spansB (n : NoteV) : Bool := n.last.all okLa && (rowsB n && spanB n)
def S1 : PCall := rowQ 55 repPD (rowQ 30 numberD (rowQ 31 hasD noCall))
theorem S1_app {f : FuncId} {args : List AV} {σ : AHeap} {K : AV → AHeap → Prop} : S1 f args σ K = rowQ 55 repPD (rowQ 30 numberD (rowQ 31 hasD noCall)) f args σ K := _root_.id rfl
theorem S1_sound : Sound Tryz.prog S1 := rowQ_sound repPD_ok (rowQ_sound numberD_ok (rowQ_sound hasD_ok (noCall_sound _)))
def spI (x : NoteV) (n : Nat) (e : Env) (σ : AHeap) : Prop :=
  ∃ i : Nat, i ≤ x.last.length ∧ n = x.last.length - i ∧ hget σ 0 = some x.cells ∧ (x.last.take i).all okLa = true ∧ e 1 = .ptr 0 0 ∧ e 9 = .imm (x.last.map LaV.cells) false false ∧ e 10 = .int .i64 (x.last.length : Int) ∧ e 11 = .int .i64 (i : Int)
theorem sp_step (n : NoteV) (hs : n.sz) (k : Nat) (e : Env) (σ : AHeap) (h : spI n k e σ) :
    sC S1 0 b33_17 (unw S1 0 (loopR S1 0 (RetQ [MRes.t 2] fun r _ => r.pure = true ∧ r = .bool (spansB n)) (.block 0 (.seq b33_24 .fin)) (spI n) k) .fin) e σ := by
  obtain ⟨i, hi, hk, g0, hall, e1, e9, e10, e11⟩ := h
  have hml : (n.last.map LaV.cells).length = n.last.length := by simp
  have hll := hs.last
  rcases Nat.lt_or_ge i n.last.length with hlt | hge
  · have hlt' : (i : Int) < (n.last.length : Int) := by omega
    have hge0 : (0 : Int) ≤ (i : Int) := by omega
    obtain ⟨x, hx⟩ : ∃ x, n.last[i]? = some x := ⟨_, List.getElem?_eq_getElem hlt⟩
    have hxx : (n.last.map LaV.cells)[i]? = some [.int .i64 x.seq, .int .i64 x.rep.client, .int .i64 x.rep.seq, .int .i64 x.rep.err, .bool x.rep.found, .str x.rep.val, .imm (recs x.rep.l) false false, .str x.rep.next, .bool x.rep.more] := by simp [hx, LaV.cells, RepV.cells]
    have hw : IntKind.wrap .i64 ((i : Int) + 1) = ((i + 1 : Nat) : Int) := by rw [Gz.wrap64 (by omega)]; omega
    have htk : n.last.take (i + 1) = n.last.take i ++ [x] := by rw [List.take_add_one, hx]; rfl
    have sn : ∀ c c' : List AV, hget (hset (hpush σ c) (List.length σ) c') (List.length σ) = some c' := fun c c' => set_same push_new'
    have s0 : ∀ c c' : List AV, hget (hset (hpush σ c) (List.length σ) c') 0 = some n.cells := fun c c' => al_frame g0
    have hsz := hs.la x (List.mem_of_getElem? hx)
    have bad : okLa x = false → spansB n = false := fun hb => by
      have : n.last.all okLa = false := by
        rw [Bool.eq_false_iff]; intro ha
        have := List.all_eq_true.1 ha x (List.mem_of_getElem? hx)
        rw [hb] at this; cases this
      simp only [spansB, this]; rfl
    cases h1 : x.rep.bad with
    | true =>
      simp only [S1_app, Z33, base1, baseE, ↓reduceIte, Nat.reduceAdd, Nat.reduceSub, Nat.reduceMul, Nat.reduceEqDiff, Nat.reduceLeDiff, Nat.reduceLT, Int.reduceLT, Int.reduceLE, Int.reduceEq, Int.reduceNe, Int.reduceToNat, Int.reduceAdd, Int.reduceSub, reduceCtorEq, Nat.reduceBEq, Nat.reduceBNe, loopR_exit, loopR_ret, repPD_eq, numberD_eq, hasD_eq, hasK_2, hasK_6, e1, e9, e10, e11, hlt', hlt, hge0, hxx, hml, Int.toNat_natCast, push_new', sn, s0, hsz, packR_t, h1]
      exact ⟨rfl, by rw [bad (by simp only [okLa, h1]; rfl)]⟩
    | false =>
    cases h2 : numB x.seq with
    | false =>
      simp only [S1_app, Z33, base1, baseE, ↓reduceIte, Nat.reduceAdd, Nat.reduceSub, Nat.reduceMul, Nat.reduceEqDiff, Nat.reduceLeDiff, Nat.reduceLT, Int.reduceLT, Int.reduceLE, Int.reduceEq, Int.reduceNe, Int.reduceToNat, Int.reduceAdd, Int.reduceSub, reduceCtorEq, Nat.reduceBEq, Nat.reduceBNe, loopR_exit, loopR_ret, repPD_eq, numberD_eq, hasD_eq, hasK_2, hasK_6, e1, e9, e10, e11, hlt', hlt, hge0, hxx, hml, Int.toNat_natCast, push_new', sn, s0, hsz, packR_f, h1, h2]
      exact ⟨rfl, by rw [bad (by simp only [okLa, h1, h2]; rfl)]⟩
    | true =>
    simp only [S1_app, Z33, base1, baseE, ↓reduceIte, Nat.reduceAdd, Nat.reduceSub, Nat.reduceMul, Nat.reduceEqDiff, Nat.reduceLeDiff, Nat.reduceLT, Int.reduceLT, Int.reduceLE, Int.reduceEq, Int.reduceNe, Int.reduceToNat, Int.reduceAdd, Int.reduceSub, reduceCtorEq, Nat.reduceBEq, Nat.reduceBNe, loopR_exit, loopR_ret, repPD_eq, numberD_eq, hasD_eq, hasK_2, hasK_6, e1, e9, e10, e11, hlt', hlt, hge0, hxx, hml, Int.toNat_natCast, push_new', sn, s0, hsz, packR_f, h1, h2, hw]
    rw [loopR_normal]
    refine ⟨n.last.length - (i + 1), _, _, by omega, .refl _ _ _, i + 1, hlt, rfl, al_frame g0, ?_, ?_, ?_, ?_, ?_⟩
    · rw [htk, List.all_append, hall]
      simp only [List.all_cons, List.all_nil, okLa, h1, h2]; rfl
    all_goals simp only [putD_some, putD_none, Nat.reduceEqDiff, ↓reduceIte, e1, e9, e10, e11, hw]
  · have hlt' : ¬ (i : Int) < (n.last.length : Int) := by omega
    have hie : i = n.last.length := by omega
    subst hie
    rw [List.take_length] at hall
    have p0 : ∀ c : List AV, hget (hpush σ c) 0 = some n.cells := fun c => push_old g0
    have p1 : ∀ c c' : List AV, hget (hpush (hpush σ c) c') 0 = some n.cells := fun c c' => push_old (push_old g0)
    have hl1 : (n.l.map recC).length = n.l.length := by simp
    simp only [NoteV.cells] at g0 p0 p1
    have fin : ∀ (b : Bool), b = (rowsB n && spanB n) → (AV.bool b).pure = true ∧ AV.bool b = .bool (spansB n) := fun b hb => ⟨rfl, by rw [hb]; simp only [spansB, hall]; rfl⟩
    cases g1 : decide ((n.l.length : Int) = 0) <;> cases g2 : decide ((n.last.length : Int) = 0) <;> cases g3 : [8, 9].contains n.kind <;> cases ge : decide (n.epoch = 0) <;> cases gf : decide (n.sf = []) <;> cases gt : decide (n.st = []) <;> cases gk : [7, 11, 10, 12, 8, 9].contains n.kind <;>
      (simp only [S1_app, Z33, base1, baseE, ↓reduceIte, Nat.reduceAdd, Nat.reduceSub, Nat.reduceMul, Nat.reduceEqDiff, Nat.reduceLeDiff, Nat.reduceLT, Int.reduceLT, Int.reduceLE, Int.reduceEq, Int.reduceNe, Int.reduceToNat, Int.reduceAdd, Int.reduceSub, reduceCtorEq, Nat.reduceBEq, Nat.reduceBNe, loopR_exit, loopR_ret, hasD_eq, hasK_2, hasK_6, e1, e9, e10, e11, hlt', hml, hl1, push_new', g0, p0, p1, g1, g2, g3, ge, gf, gt, gk]; exact fin _ (by simp only [rowsB, spanB, g1, g2, g3, ge, gf, gt, gk]; rfl))
theorem spans_ok (n : NoteV) (hs : n.sz) : Tri Tryz.prog 33 [.agg n.cells] [] fun r _ => r.pure = true ∧ r = .bool (spansB n) := by
  refine Tri.of_s c33 S1_sound ?_
  have hml : (n.last.map LaV.cells).length = n.last.length := by simp
  have hc : n.cells[24]? = some (.imm (n.last.map LaV.cells) false false) := rfl
  simp only [S1_app, Z33, base1, baseE, ↓reduceIte, Nat.reduceAdd, Nat.reduceSub, Nat.reduceMul, Nat.reduceEqDiff, Nat.reduceLeDiff, Nat.reduceLT, Int.reduceLT, Int.reduceLE, Int.reduceEq, Int.reduceNe, Int.reduceToNat, Int.reduceAdd, Int.reduceSub, reduceCtorEq, Nat.reduceBEq, Nat.reduceBNe, hc, hml]
  exact sC_inv (a := b33_17) (spI n) n.last.length _ _ (.refl _ _ _) ⟨0, Nat.zero_le _, rfl, rfl, rfl, rfl, rfl, rfl, rfl⟩ (sp_step n hs)
/-! Maps. -/
def mapsB (n : NoteV) : Bool := if [4, 6].contains n.kind then atlasB n.aep n.sh && numB n.aep else decide (n.aep = 0) && decide ((n.sh.length : Int) = 0)
def atlasD (args : List AV) (σ : AHeap) (K : AV → AHeap → Prop) : Prop := ∃ (ep : Int) (sh : List ShV), args = [.agg [.int .i64 ep, .imm (sh.map ShV.cells) false false], .int .i64 5] ∧ sh.length ≤ 1000000 ∧ K (.bool (atlasB ep sh)) σ
theorem atlasD_eq {ep : Int} {sh : List ShV} {σ : AHeap} {K : AV → AHeap → Prop} : atlasD [.agg [.int .i64 ep, .imm (sh.map ShV.cells) false false], .int .i64 5] σ K = (sh.length ≤ 1000000 ∧ K (.bool (atlasB ep sh)) σ) := by
  apply propext
  refine ⟨fun ⟨ep', sh', h1, h2, h3⟩ => ?_, fun h => ⟨ep, sh, rfl, h.1, h.2⟩⟩
  simp only [List.cons.injEq, AV.agg.injEq, AV.int.injEq, AV.imm.injEq, true_and, and_true] at h1
  obtain ⟨rfl, h1⟩ := h1
  have := map_inj sh_inj h1
  subst this
  exact ⟨h2, h3⟩
theorem atlasD_ok (args : List AV) (σ : AHeap) (K : AV → AHeap → Prop) (h : atlasD args σ K) : Tri Tryz.prog 58 args σ K := by
  obtain ⟨ep, sh, rfl, hl, h⟩ := h
  exact (Tri.pureD (by simp only [pureL, AV.pure, rowsSh_pure, Bool.and_self]) (atlas_ok ep sh hl) σ).mono fun r σ' hr => by rw [hr.1, hr.2]; exact h
def P1 : PCall := rowQ 58 atlasD (rowQ 30 numberD (rowQ 31 hasD noCall))
theorem P1_app {f : FuncId} {args : List AV} {σ : AHeap} {K : AV → AHeap → Prop} : P1 f args σ K = rowQ 58 atlasD (rowQ 30 numberD (rowQ 31 hasD noCall)) f args σ K := _root_.id rfl
theorem P1_sound : Sound Tryz.prog P1 := rowQ_sound atlasD_ok (rowQ_sound numberD_ok (rowQ_sound hasD_ok (noCall_sound _)))
theorem maps_ok (n : NoteV) (hs : n.sz) : Tri Tryz.prog 34 [.agg n.cells] [] fun r _ => r.pure = true ∧ r = .bool (mapsB n) := by
  refine Tri.of_s c34 P1_sound ?_
  have hl := hs.sh
  have hml : (n.sh.map ShV.cells).length = n.sh.length := by simp
  cases h1 : [4, 6].contains n.kind <;> cases h2 : atlasB n.aep n.sh <;> cases h3 : numB n.aep <;> cases h4 : decide (n.aep = 0) <;> cases h5 : decide ((n.sh.length : Int) = 0) <;>
    (simp only [NoteV.cells, P1_app, Z34, base1, baseE, ↓reduceIte, Nat.reduceAdd, Nat.reduceSub, Nat.reduceMul, Nat.reduceEqDiff, Nat.reduceLeDiff, Nat.reduceLT, Int.reduceLT, Int.reduceLE, Int.reduceEq, Int.reduceNe, Int.reduceToNat, Int.reduceAdd, Int.reduceSub, reduceCtorEq, Nat.reduceBEq, Nat.reduceBNe, atlasD_eq, numberD_eq, hasD_eq, hasK_2, hml, hl, h1, h2, h3, h4, h5]; exact ⟨rfl, by simp only [mapsB, h1, h2, h3, h4, h5]; rfl⟩)
/-! May. -/
def headB (n : NoteV) : Bool := !decide (n.kind < 1) && (!decide (12 < n.kind) && (partyB n.from_ && (partyB n.to && (!decide (n.from_ = n.to) && (numB n.epoch && numB n.tick)))))
def tickB (n : NoteV) : Bool := decide (n.tick = 0) || [5, 6].contains n.kind
def mayB (n : NoteV) : Bool := headB n && (tickB n && (asksB n && (spansB n && mapsB n)))
def asksD (args : List AV) (σ : AHeap) (K : AV → AHeap → Prop) : Prop := ∃ n : NoteV, args = [.agg n.cells] ∧ n.sz ∧ K (.bool (asksB n)) σ
theorem asksD_eq {n : NoteV} {σ : AHeap} {K : AV → AHeap → Prop} : asksD [.agg [.int .i64 n.kind, .int .i64 n.from_, .int .i64 n.to, .int .i64 n.epoch, .int .i64 n.tick, .int .i64 n.ask.do_, .int .i64 n.ask.client, .int .i64 n.ask.seq, .str n.ask.text, .str n.ask.val, .str n.ask.from_, .str n.ask.to, .int .i64 n.ask.limit, .int .i64 n.rep.client, .int .i64 n.rep.seq, .int .i64 n.rep.err, .bool n.rep.found, .str n.rep.val, .imm (recs n.rep.l) false false, .str n.rep.next, .bool n.rep.more, .str n.sf, .str n.st, .imm (n.l.map recC) false false, .imm (n.last.map LaV.cells) false false, .int .i64 n.aep, .imm (n.sh.map ShV.cells) false false]] σ K = (n.sz ∧ K (.bool (asksB n)) σ) := by
  apply propext
  refine ⟨fun ⟨m, h1, h2, h3⟩ => ?_, fun h => ⟨n, rfl, h.1, h.2⟩⟩
  have : n = m := note_inj (List.cons.inj h1).1
  subst this
  exact ⟨h2, h3⟩
theorem asksD_ok (args : List AV) (σ : AHeap) (K : AV → AHeap → Prop) (h : asksD args σ K) : Tri Tryz.prog 32 args σ K := by
  obtain ⟨n, rfl, hs, h⟩ := h
  exact (Tri.pureD (by simp only [pureL, note_pure, Bool.and_self]) (asks_ok n hs) σ).mono fun r σ' hr => by rw [hr.1, hr.2]; exact h
def spansD (args : List AV) (σ : AHeap) (K : AV → AHeap → Prop) : Prop := ∃ n : NoteV, args = [.agg n.cells] ∧ n.sz ∧ K (.bool (spansB n)) σ
theorem spansD_eq {n : NoteV} {σ : AHeap} {K : AV → AHeap → Prop} : spansD [.agg [.int .i64 n.kind, .int .i64 n.from_, .int .i64 n.to, .int .i64 n.epoch, .int .i64 n.tick, .int .i64 n.ask.do_, .int .i64 n.ask.client, .int .i64 n.ask.seq, .str n.ask.text, .str n.ask.val, .str n.ask.from_, .str n.ask.to, .int .i64 n.ask.limit, .int .i64 n.rep.client, .int .i64 n.rep.seq, .int .i64 n.rep.err, .bool n.rep.found, .str n.rep.val, .imm (recs n.rep.l) false false, .str n.rep.next, .bool n.rep.more, .str n.sf, .str n.st, .imm (n.l.map recC) false false, .imm (n.last.map LaV.cells) false false, .int .i64 n.aep, .imm (n.sh.map ShV.cells) false false]] σ K = (n.sz ∧ K (.bool (spansB n)) σ) := by
  apply propext
  refine ⟨fun ⟨m, h1, h2, h3⟩ => ?_, fun h => ⟨n, rfl, h.1, h.2⟩⟩
  have : n = m := note_inj (List.cons.inj h1).1
  subst this
  exact ⟨h2, h3⟩
theorem spansD_ok (args : List AV) (σ : AHeap) (K : AV → AHeap → Prop) (h : spansD args σ K) : Tri Tryz.prog 33 args σ K := by
  obtain ⟨n, rfl, hs, h⟩ := h
  exact (Tri.pureD (by simp only [pureL, note_pure, Bool.and_self]) (spans_ok n hs) σ).mono fun r σ' hr => by rw [hr.1, hr.2]; exact h
def mapsD (args : List AV) (σ : AHeap) (K : AV → AHeap → Prop) : Prop := ∃ n : NoteV, args = [.agg n.cells] ∧ n.sz ∧ K (.bool (mapsB n)) σ
theorem mapsD_eq {n : NoteV} {σ : AHeap} {K : AV → AHeap → Prop} : mapsD [.agg [.int .i64 n.kind, .int .i64 n.from_, .int .i64 n.to, .int .i64 n.epoch, .int .i64 n.tick, .int .i64 n.ask.do_, .int .i64 n.ask.client, .int .i64 n.ask.seq, .str n.ask.text, .str n.ask.val, .str n.ask.from_, .str n.ask.to, .int .i64 n.ask.limit, .int .i64 n.rep.client, .int .i64 n.rep.seq, .int .i64 n.rep.err, .bool n.rep.found, .str n.rep.val, .imm (recs n.rep.l) false false, .str n.rep.next, .bool n.rep.more, .str n.sf, .str n.st, .imm (n.l.map recC) false false, .imm (n.last.map LaV.cells) false false, .int .i64 n.aep, .imm (n.sh.map ShV.cells) false false]] σ K = (n.sz ∧ K (.bool (mapsB n)) σ) := by
  apply propext
  refine ⟨fun ⟨m, h1, h2, h3⟩ => ?_, fun h => ⟨n, rfl, h.1, h.2⟩⟩
  have : n = m := note_inj (List.cons.inj h1).1
  subst this
  exact ⟨h2, h3⟩
theorem mapsD_ok (args : List AV) (σ : AHeap) (K : AV → AHeap → Prop) (h : mapsD args σ K) : Tri Tryz.prog 34 args σ K := by
  obtain ⟨n, rfl, hs, h⟩ := h
  exact (Tri.pureD (by simp only [pureL, note_pure, Bool.and_self]) (maps_ok n hs) σ).mono fun r σ' hr => by rw [hr.1, hr.2]; exact h
def Y1 : PCall := rowQ 29 partyD (rowQ 30 numberD (rowQ 31 hasD (rowQ 32 asksD (rowQ 33 spansD (rowQ 34 mapsD noCall)))))
theorem Y1_app {f : FuncId} {args : List AV} {σ : AHeap} {K : AV → AHeap → Prop} : Y1 f args σ K = rowQ 29 partyD (rowQ 30 numberD (rowQ 31 hasD (rowQ 32 asksD (rowQ 33 spansD (rowQ 34 mapsD noCall))))) f args σ K := _root_.id rfl
theorem Y1_sound : Sound Tryz.prog Y1 := rowQ_sound partyD_ok (rowQ_sound numberD_ok (rowQ_sound hasD_ok (rowQ_sound asksD_ok (rowQ_sound spansD_ok (rowQ_sound mapsD_ok (noCall_sound _))))))
theorem may_ok (n : NoteV) (hs : n.sz) : Tri Tryz.prog 16 [.agg n.cells] [] fun r _ => r.pure = true ∧ r = .bool (mayB n) := by
  refine Tri.of_s c16 Y1_sound ?_
  cases h1 : decide (n.kind < 1) with
  | true =>
    simp only [NoteV.cells, Y1_app, Z16, base1, baseE, ↓reduceIte, Nat.reduceAdd, Nat.reduceSub, Nat.reduceMul, Nat.reduceEqDiff, Nat.reduceLeDiff, Nat.reduceLT, Int.reduceLT, Int.reduceLE, Int.reduceEq, Int.reduceNe, Int.reduceToNat, Int.reduceAdd, Int.reduceSub, reduceCtorEq, Nat.reduceBEq, Nat.reduceBNe, partyD_eq, numberD_eq, hasD_eq, hasK_2, asksD_eq, spansD_eq, mapsD_eq, hs, h1]
    exact ⟨rfl, by simp only [mayB, headB, h1]; rfl⟩
  | false =>
  cases h2 : decide (12 < n.kind) with
  | true =>
    simp only [NoteV.cells, Y1_app, Z16, base1, baseE, ↓reduceIte, Nat.reduceAdd, Nat.reduceSub, Nat.reduceMul, Nat.reduceEqDiff, Nat.reduceLeDiff, Nat.reduceLT, Int.reduceLT, Int.reduceLE, Int.reduceEq, Int.reduceNe, Int.reduceToNat, Int.reduceAdd, Int.reduceSub, reduceCtorEq, Nat.reduceBEq, Nat.reduceBNe, partyD_eq, numberD_eq, hasD_eq, hasK_2, asksD_eq, spansD_eq, mapsD_eq, hs, h1, h2]
    exact ⟨rfl, by simp only [mayB, headB, h1, h2]; rfl⟩
  | false =>
  cases h3 : partyB n.from_ with
  | false =>
    simp only [NoteV.cells, Y1_app, Z16, base1, baseE, ↓reduceIte, Nat.reduceAdd, Nat.reduceSub, Nat.reduceMul, Nat.reduceEqDiff, Nat.reduceLeDiff, Nat.reduceLT, Int.reduceLT, Int.reduceLE, Int.reduceEq, Int.reduceNe, Int.reduceToNat, Int.reduceAdd, Int.reduceSub, reduceCtorEq, Nat.reduceBEq, Nat.reduceBNe, partyD_eq, numberD_eq, hasD_eq, hasK_2, asksD_eq, spansD_eq, mapsD_eq, hs, h1, h2, h3]
    exact ⟨rfl, by simp only [mayB, headB, h1, h2, h3]; rfl⟩
  | true =>
  cases h4 : partyB n.to with
  | false =>
    simp only [NoteV.cells, Y1_app, Z16, base1, baseE, ↓reduceIte, Nat.reduceAdd, Nat.reduceSub, Nat.reduceMul, Nat.reduceEqDiff, Nat.reduceLeDiff, Nat.reduceLT, Int.reduceLT, Int.reduceLE, Int.reduceEq, Int.reduceNe, Int.reduceToNat, Int.reduceAdd, Int.reduceSub, reduceCtorEq, Nat.reduceBEq, Nat.reduceBNe, partyD_eq, numberD_eq, hasD_eq, hasK_2, asksD_eq, spansD_eq, mapsD_eq, hs, h1, h2, h3, h4]
    exact ⟨rfl, by simp only [mayB, headB, h1, h2, h3, h4]; rfl⟩
  | true =>
  cases h5 : decide (n.from_ = n.to) with
  | true =>
    simp only [NoteV.cells, Y1_app, Z16, base1, baseE, ↓reduceIte, Nat.reduceAdd, Nat.reduceSub, Nat.reduceMul, Nat.reduceEqDiff, Nat.reduceLeDiff, Nat.reduceLT, Int.reduceLT, Int.reduceLE, Int.reduceEq, Int.reduceNe, Int.reduceToNat, Int.reduceAdd, Int.reduceSub, reduceCtorEq, Nat.reduceBEq, Nat.reduceBNe, partyD_eq, numberD_eq, hasD_eq, hasK_2, asksD_eq, spansD_eq, mapsD_eq, hs, h1, h2, h3, h4, h5]
    exact ⟨rfl, by simp only [mayB, headB, h1, h2, h3, h4, h5]; rfl⟩
  | false =>
  cases h6 : numB n.epoch with
  | false =>
    simp only [NoteV.cells, Y1_app, Z16, base1, baseE, ↓reduceIte, Nat.reduceAdd, Nat.reduceSub, Nat.reduceMul, Nat.reduceEqDiff, Nat.reduceLeDiff, Nat.reduceLT, Int.reduceLT, Int.reduceLE, Int.reduceEq, Int.reduceNe, Int.reduceToNat, Int.reduceAdd, Int.reduceSub, reduceCtorEq, Nat.reduceBEq, Nat.reduceBNe, partyD_eq, numberD_eq, hasD_eq, hasK_2, asksD_eq, spansD_eq, mapsD_eq, hs, h1, h2, h3, h4, h5, h6]
    exact ⟨rfl, by simp only [mayB, headB, h1, h2, h3, h4, h5, h6]; rfl⟩
  | true =>
  cases h7 : numB n.tick with
  | false =>
    simp only [NoteV.cells, Y1_app, Z16, base1, baseE, ↓reduceIte, Nat.reduceAdd, Nat.reduceSub, Nat.reduceMul, Nat.reduceEqDiff, Nat.reduceLeDiff, Nat.reduceLT, Int.reduceLT, Int.reduceLE, Int.reduceEq, Int.reduceNe, Int.reduceToNat, Int.reduceAdd, Int.reduceSub, reduceCtorEq, Nat.reduceBEq, Nat.reduceBNe, partyD_eq, numberD_eq, hasD_eq, hasK_2, asksD_eq, spansD_eq, mapsD_eq, hs, h1, h2, h3, h4, h5, h6, h7]
    exact ⟨rfl, by simp only [mayB, headB, h1, h2, h3, h4, h5, h6, h7]; rfl⟩
  | true =>
  cases g1 : decide (n.tick = 0) <;> cases g2 : [5, 6].contains n.kind <;> cases g3 : asksB n <;> cases g4 : spansB n <;> cases g5 : mapsB n <;>
    (simp only [NoteV.cells, Y1_app, Z16, base1, baseE, ↓reduceIte, Nat.reduceAdd, Nat.reduceSub, Nat.reduceMul, Nat.reduceEqDiff, Nat.reduceLeDiff, Nat.reduceLT, Int.reduceLT, Int.reduceLE, Int.reduceEq, Int.reduceNe, Int.reduceToNat, Int.reduceAdd, Int.reduceSub, reduceCtorEq, Nat.reduceBEq, Nat.reduceBNe, partyD_eq, numberD_eq, hasD_eq, hasK_2, asksD_eq, spansD_eq, mapsD_eq, hs, h1, h2, h3, h4, h5, h6, h7, g1, g2, g3, g4, g5]; exact ⟨rfl, by simp only [mayB, headB, tickB, h1, h2, h3, h4, h5, h6, h7, g1, g2, g3, g4, g5]; rfl⟩)
end Go.Proofs.YtgaopohogdinhaaGreatDoor.note
