/- What the program groups: any items, by what a function says of them. No condition. -/
import Derived.Test.YtnooejmbhdgbpaaGreatDoorRows
import Derived.Test.YtnooejmbhdgbpaaGreatDoorK22
import Derived.Test.YtnooejmbhdgbpaaGreatDoorK33
import Derived.Test.YtnooejmbhdgbpaaGreatDoorTA
set_option linter.unusedVariables false
set_option linter.unusedSimpArgs false
namespace Go.Proofs.YtnooejmbhdgbpaaGreatDoor.gauge
open Go.ChangeShapes Go.WideShapes Go.ChangeAt Go.RowKit Go.Gz Go.Gz.H
section
variable {C : PCall} {n0 : Nat} {R : MExit → Env → AHeap → Prop} {k : Cont} {e : Env} {σ : AHeap}
abbrev r8_0 : List MOper := [⟨(some 4), .move (.c (.nilslice)), none⟩]
def b8_0 : SCode := .region r8_0
abbrev r8_1 : List MOper := [⟨(some 12), .move (.t 1), none⟩,
  ⟨(some 13), .bin .eql .nilf (.t 12) (.c (.nilfunc)), none⟩]
def b8_1 : SCode := .region r8_1
abbrev r8_2 : List MOper := [⟨(some 4), .move (.c (.nilslice)), none⟩]
def b8_2 : SCode := .region r8_2
def b8_3 : SCode := .seq b8_2 .ret
def b8_4 : SCode := .cond (.t 13) b8_3 .skip
def b8_5 : SCode := .seq b8_1 b8_4
abbrev r8_6 : List MOper := [⟨(some 5), .move (.c (.nilslice)), none⟩]
def b8_6 : SCode := .region r8_6
abbrev r8_7 : List MOper := [⟨(some 14), .ext .mkMap [], none⟩,
  ⟨(some 6), .move (.t 14), none⟩]
def b8_7 : SCode := .region r8_7
abbrev r8_8 : List MOper := [⟨(some 15), .move (.t 0), none⟩,
  ⟨(some 16), .lenSl (.t 15), none⟩,
  ⟨(some 17), .move (.c (.int .i64 0)), none⟩]
def b8_8 : SCode := .region r8_8
abbrev r8_9 : List MOper := [⟨(some 18), .bin .lss .num (.t 17) (.t 16), none⟩]
def b8_9 : SCode := .region r8_9
def b8_10 : SCode := .cond (.t 18) .skip (.exit 0)
abbrev r8_11 : List MOper := [⟨(some 19), .indexAddr 1 (.t 15) (.t 17), none⟩,
  ⟨(some 20), .load1 (.t 19), none⟩,
  ⟨(some 8), .move (.t 20), none⟩]
def b8_11 : SCode := .region r8_11
abbrev r8_12 : List MOper := [⟨(some 21), .move (.t 1), none⟩,
  ⟨(some 22), .move (.t 8), none⟩,
  ⟨(some 23), .callv (.t 21) [(.t 22)], none⟩,
  ⟨(some 9), .move (.t 23), none⟩]
def b8_12 : SCode := .region r8_12
abbrev r8_13 : List MOper := [⟨(some 25), .move (.t 6), none⟩,
  ⟨(some 26), .move (.t 9), none⟩,
  ⟨(some 27), .ext (.look .i (.int .i64 0) true) [(.t 25), (.t 26)], none⟩,
  ⟨(some 24), .move (.t 27), none⟩,
  ⟨(some 28), .extract (.t 24) 0, none⟩,
  ⟨(some 29), .extract (.t 24) 1, none⟩,
  ⟨(some 10), .move (.t 28), none⟩,
  ⟨(some 11), .move (.t 29), none⟩]
def b8_13 : SCode := .region r8_13
abbrev r8_14 : List MOper := [⟨(some 30), .move (.t 11), none⟩,
  ⟨(some 31), .un .not (.t 30), none⟩]
def b8_14 : SCode := .region r8_14
abbrev r8_15 : List MOper := [⟨(some 32), .move (.t 5), none⟩,
  ⟨(some 33), .lenSl (.t 32), none⟩,
  ⟨(some 10), .move (.t 33), none⟩]
def b8_15 : SCode := .region r8_15
abbrev r8_16 : List MOper := [⟨(some 34), .move (.t 6), none⟩,
  ⟨(some 35), .move (.t 9), none⟩,
  ⟨(some 36), .move (.t 10), none⟩,
  ⟨(some 37), .move (.t 5), none⟩,
  ⟨(some 38), .buildSlice [.nilslice] 1 1 [(0, 1, (.c (.nilslice)))], none⟩,
  ⟨(some 39), .append 1 24 (.t 37) (.t 38), none⟩,
  ⟨none, .ext (.mset .i) [(.t 34), (.t 35), (.t 36)], none⟩,
  ⟨(some 5), .move (.t 39), none⟩]
def b8_16 : SCode := .region r8_16
def b8_17 : SCode := .seq b8_15 b8_16
def b8_18 : SCode := .cond (.t 31) b8_17 .skip
def b8_19 : SCode := .seq b8_14 b8_18
abbrev r8_20 : List MOper := [⟨(some 40), .move (.t 5), none⟩,
  ⟨(some 41), .move (.t 10), none⟩,
  ⟨(some 42), .move (.t 5), none⟩,
  ⟨(some 43), .move (.t 10), none⟩,
  ⟨(some 44), .indexAddr 1 (.t 42) (.t 43), none⟩,
  ⟨(some 45), .load1 (.t 44), none⟩,
  ⟨(some 46), .move (.t 8), none⟩,
  ⟨(some 47), .buildSlice [.str []] 1 1 [(0, 1, (.t 46))], none⟩,
  ⟨(some 48), .append 1 16 (.t 45) (.t 47), none⟩,
  ⟨(some 49), .indexAddr 1 (.t 40) (.t 41), none⟩,
  ⟨none, .store 1 (.t 49) (.t 48), none⟩]
def b8_20 : SCode := .region r8_20
def b8_21 : SCode := .seq b8_19 b8_20
def b8_22 : SCode := .seq b8_13 b8_21
def b8_23 : SCode := .seq b8_12 b8_22
def b8_24 : SCode := .seq b8_11 b8_23
def b8_25 : SCode := .block 1 b8_24
abbrev r8_26 : List MOper := [⟨(some 50), .bin .add .num (.t 17) (.c (.int .i64 1)), none⟩,
  ⟨(some 17), .move (.t 50), none⟩]
def b8_26 : SCode := .region r8_26
def b8_27 : SCode := .seq b8_25 b8_26
def b8_28 : SCode := .seq b8_10 b8_27
def b8_29 : SCode := .seq b8_9 b8_28
def b8_30 : SCode := .loop b8_29
def b8_31 : SCode := .block 0 b8_30
def b8_32 : SCode := .seq b8_8 b8_31
abbrev r8_33 : List MOper := [⟨(some 51), .move (.t 5), none⟩,
  ⟨(some 4), .move (.t 51), none⟩]
def b8_33 : SCode := .region r8_33
def b8_34 : SCode := .seq b8_33 .ret
def b8_35 : SCode := .seq b8_32 b8_34
def b8_36 : SCode := .seq b8_7 b8_35
def b8_37 : SCode := .seq b8_6 b8_36
def b8_38 : SCode := .seq b8_5 b8_37
def b8_39 : SCode := .seq b8_0 b8_38
def s8 : SFunc := ⟨52, [.t 4], b8_39⟩
theorem c8 : sFn Tryz.prog 8 = some s8 := by kernel_rfl
theorem x8_20 : XR b8_20 r8_20 := rfl
theorem Z8 : XR b8_0 r8_0 ∧ XR b8_1 r8_1 ∧ XR b8_2 r8_2 ∧ XS b8_3 b8_2 .ret ∧ XC b8_4 (.t 13) b8_3 .skip ∧ XS b8_5 b8_1 b8_4 ∧ XR b8_6 r8_6 ∧ XR b8_7 r8_7 ∧ XR b8_8 r8_8 ∧ XR b8_9 r8_9 ∧ XC b8_10 (.t 18) .skip (.exit 0) ∧ XR b8_11 r8_11 ∧ XR b8_12 r8_12 ∧ XR b8_13 r8_13 ∧ XR b8_14 r8_14 ∧ XR b8_15 r8_15 ∧ XR b8_16 r8_16 ∧ XS b8_17 b8_15 b8_16 ∧ XC b8_18 (.t 31) b8_17 .skip ∧ XS b8_19 b8_14 b8_18 ∧ XS b8_21 b8_19 b8_20 ∧ XS b8_22 b8_13 b8_21 ∧ XS b8_23 b8_12 b8_22 ∧ XS b8_24 b8_11 b8_23 ∧ XB b8_25 1 b8_24 ∧ XR b8_26 r8_26 ∧ XS b8_27 b8_25 b8_26 ∧ XS b8_28 b8_10 b8_27 ∧ XS b8_29 b8_9 b8_28 ∧ XB b8_31 0 b8_30 ∧ XS b8_32 b8_8 b8_31 ∧ XR b8_33 r8_33 ∧ XS b8_34 b8_33 .ret ∧ XS b8_35 b8_32 b8_34 ∧ XS b8_36 b8_7 b8_35 ∧ XS b8_37 b8_6 b8_36 ∧ XS b8_38 b8_5 b8_37 ∧ XS b8_39 b8_0 b8_38 ∧ XY s8 52 b8_39 [.t 4] := ⟨rfl, rfl, rfl, rfl, sC_cond, rfl, rfl, rfl, rfl, rfl, sC_cond, rfl, rfl, rfl, rfl, rfl, rfl, rfl, sC_cond, rfl, rfl, rfl, rfl, rfl, rfl, rfl, rfl, rfl, rfl, rfl, rfl, rfl, rfl, rfl, rfl, rfl, rfl, rfl, rfl⟩
abbrev r9_0 : List MOper := [⟨(some 2), .move (.c (.int .i64 0)), none⟩]
def b9_0 : SCode := .region r9_0
abbrev r9_1 : List MOper := [⟨(some 3), .move (.t 0), none⟩,
  ⟨(some 4), .lenStr (.t 3), none⟩,
  ⟨(some 2), .move (.t 4), none⟩]
def b9_1 : SCode := .region r9_1
def b9_2 : SCode := .seq b9_1 .ret
def b9_3 : SCode := .seq b9_0 b9_2
def s9 : SFunc := ⟨5, [.t 2], b9_3⟩
theorem c9 : sFn Tryz.prog 9 = some s9 := by kernel_rfl
theorem Z9 : XR b9_0 r9_0 ∧ XR b9_1 r9_1 ∧ XS b9_2 b9_1 .ret ∧ XS b9_3 b9_0 b9_2 ∧ XY s9 5 b9_3 [.t 2] := ⟨rfl, rfl, rfl, rfl, rfl⟩

end
set_option maxHeartbeats 4000000
set_option maxRecDepth 10000
namespace B
/-- An item, its key. -/
abbrev tE (x : List UInt8) : AV := .str x
abbrev kE (k : Int) : AV := .int .i64 k
abbrev kf (x : List UInt8) : Int := (x.length : Int)
theorem kE_eq (a b : Int) : baseEq .i (kE a) (kE b) = some (decide (a = b)) := by
  rw [baseEq_i]; congr 1
theorem of_ok (x : List UInt8) : Tri Tryz.prog 9 [tE x] [] fun r _ => r.pure = true ∧ r = kE (kf x) := by
  refine Tri.of_s c9 (noCall_sound _) ?_
  simp only [Z9, base1, baseE, baseX, baseY, ↓reduceIte, Nat.reduceAdd, Nat.reduceSub, Nat.reduceMul, Nat.reduceEqDiff, Nat.reduceLeDiff, Nat.reduceLT, Int.reduceLT, Int.reduceLE, Int.reduceEq, Int.reduceNe, Int.reduceToNat, Int.reduceAdd, Int.reduceSub, reduceCtorEq, Nat.reduceBEq, Nat.reduceBNe]
  first | exact ⟨rfl, rfl⟩ | rfl | trivial
def ofD (args : List AV) (σ : AHeap) (K : AV → AHeap → Prop) : Prop := ∃ x : List UInt8, args = [tE x] ∧ K (kE (kf x)) σ
theorem ofD_ok (args : List AV) (σ : AHeap) (K : AV → AHeap → Prop) (h : ofD args σ K) : Tri Tryz.prog 9 args σ K := by
  obtain ⟨x, rfl, h⟩ := h
  exact (Tri.pureD rfl (of_ok x) σ).mono fun r σ' hr => by rw [hr.1, hr.2]; exact h
theorem ofD_eq {x : List UInt8} {σ : AHeap} {K : AV → AHeap → Prop} : ofD [tE x] σ K = K (kE (kf x)) σ := by
  apply propext
  refine ⟨fun ⟨y, h1, h2⟩ => ?_, fun h => ⟨x, rfl, h⟩⟩
  cases h1; exact h2
/-! The same for each kind of items and keys. -/
abbrev IT := List UInt8
abbrev KT := Int
abbrev rowsC (l : List IT) : List (List AV) := l.map fun x => [tE x]
def outC (out : List (List IT)) : List (List AV) := out.map fun g => g.map tE
def G6 : PCall := rowQ 9 ofD noCall
theorem G6_app {f : FuncId} {args : List AV} {σ : AHeap} {K : AV → AHeap → Prop} : G6 f args σ K = rowQ 9 ofD noCall f args σ K := _root_.id rfl
theorem G6_sound : Sound Tryz.prog G6 := rowQ_sound ofD_ok (noCall_sound _)
def Qg (l : List IT) (r : AV) (σ : AHeap) : Prop := ∃ cs, GS σ r cs (outC (grpO kf l [] []))
def gI (l : List IT) (m : Nat) (e : Env) (σ : AHeap) : Prop :=
  ∃ (i mb : Nat) (Ov : AV) (cs : List AV) (ks : List KT) (out : List (List IT)), i ≤ l.length ∧ m = l.length - i ∧ ks = grpK kf (l.take i) [] ∧ out = grpO kf (l.take i) [] [] ∧ GS σ Ov cs (outC out) ∧ hget σ mb = some (ents kE ks 0) ∧ ¬ Mine Ov cs mb ∧
    e 1 = .func 9 [] ∧ e 5 = Ov ∧ e 6 = .map mb ∧ e 15 = .imm (rowsC l) false false ∧ e 16 = .int .i64 (l.length : Int) ∧ e 17 = .int .i64 (i : Int)
theorem grpK_take {l : List IT} {i : Nat} {x : IT} (hx : l[i]? = some x) : ∀ ks, grpK kf (l.take (i + 1)) ks = keysN (kf x) (grpK kf (l.take i) ks) := by
  induction l generalizing i with
  | nil => simp at hx
  | cons y r ih =>
    intro ks
    cases i with
    | zero => simp at hx; subst hx; rfl
    | succ i => exact ih (by simpa using hx) _
theorem grpO_take {l : List IT} {i : Nat} {x : IT} (hx : l[i]? = some x) : ∀ ks out, grpO kf (l.take (i + 1)) ks out = rowsN (kf x) x (grpK kf (l.take i) ks) (grpO kf (l.take i) ks out) := by
  induction l generalizing i with
  | nil => simp at hx
  | cons y r ih =>
    intro ks out
    cases i with
    | zero => simp at hx; subst hx; rfl
    | succ i => exact ih (by simpa using hx) _ _
theorem outC_at {out : List (List IT)} {i : Nat} {g : List IT} (h : out[i]? = some g) : (outC out)[i]? = some (g.map tE) := by
  unfold outC; rw [List.getElem?_map, h]; rfl
theorem outC_set (out : List (List IT)) (i : Nat) (g : List IT) (x : IT) : (outC out).set i (g.map tE ++ [tE x]) = outC (out.set i (g ++ [x])) := by
  unfold outC; rw [List.map_set]; simp
theorem len_le {l : List IT} {i : Nat} {ks : List KT} {out : List (List IT)} (hk : ks = grpK kf (l.take i) []) (ho : out = grpO kf (l.take i) [] []) : ks.length = out.length ∧ (out.map List.length).sum ≤ l.length := by
  have h := grp_ok kf (l.take i)
  rw [← hk, ← ho] at h
  refine ⟨h.len, ?_⟩
  rw [h.sum, List.length_take]; omega
theorem sum_mem {n : Nat} : ∀ {l : List Nat}, n ∈ l → n ≤ l.sum
  | a :: r, h => by
    rcases List.mem_cons.1 h with rfl | h
    · simp
    · have := sum_mem h; simp; omega
theorem row_le {l : List IT} {i j : Nat} {ks : List KT} {out : List (List IT)} {g : List IT} (hk : ks = grpK kf (l.take i) []) (ho : out = grpO kf (l.take i) [] []) (hg : out[j]? = some g) : g.length ≤ l.length := by
  have h1 := (len_le hk ho).2
  have := sum_mem (List.mem_map_of_mem (f := List.length) (List.mem_of_getElem? hg))
  omega
theorem many_le {l : List IT} {i : Nat} {ks : List KT} {out : List (List IT)} (hk : ks = grpK kf (l.take i) []) (ho : out = grpO kf (l.take i) [] []) : out.length ≤ l.length := by
  have h := grp_ok kf (l.take i)
  rw [← hk, ← ho] at h
  have h2 : ∀ (o : List (List IT)), (∀ g ∈ o, g ≠ []) → o.length ≤ (o.map List.length).sum := by
    intro o
    induction o with
    | nil => intro _; simp
    | cons g r ih =>
      intro hg
      have h1 := ih fun q hq => hg q (by simp [hq])
      have h2 : 0 < g.length := by
        have := hg g (by simp)
        cases g with
        | nil => exact absurd rfl this
        | cons => simp
      simp only [List.length_cons, List.map_cons, List.sum_cons]; omega
  have := h2 out fun g hg => by
    obtain ⟨j, hj⟩ := List.getElem?_of_mem hg
    obtain ⟨x, r, e, _⟩ := h.pos hj
    rw [e]; simp
  have h3 := (len_le hk ho).2
  omega
theorem gstep (l : List IT) (hl : l.length ≤ 1000000) (m : Nat) (e : Env) (σ : AHeap) (h : gI l m e σ) :
    sC G6 0 b8_29 (unw G6 0 (loopR G6 0 (RetQ [.t 4] (Qg l)) (.block 0 (.seq b8_34 .fin)) (gI l) m) .fin) e σ := by
  obtain ⟨i, mb, Ov, cs, ks, out, hi, hm, hks, hout, hG, hmb, hnm, e1, e5, e6, e15, e16, e17⟩ := h
  have hmap : (rowsC l).length = l.length := by simp
  rcases Nat.lt_or_ge i l.length with hlt | hge
  · have hlt' : (i : Int) < (l.length : Int) := by omega
    have hge0 : (0 : Int) ≤ (i : Int) := by omega
    obtain ⟨x, hx⟩ : ∃ x, l[i]? = some x := ⟨_, List.getElem?_eq_getElem hlt⟩
    have hxr : (rowsC l)[i]? = some [tE x] := by simp [hx]
    have hwr : IntKind.wrap .i64 ((i : Int) + 1) = ((i + 1 : Nat) : Int) := by rw [Gz.wrap64 (by omega)]; omega
    obtain ⟨hlk, hsum⟩ := len_le hks hout
    have hmany := many_le hks hout
    have hcl : cs.length = out.length := by rw [hG.len]; simp [outC]
    have hsteK := grpK_take hx []
    have hsteO := grpO_take hx [] []
    rw [← hks] at hsteK
    rw [← hks, ← hout] at hsteO
    have fin : ∀ (e : Env) (σ : AHeap) (Ov : AV) (cs : List AV) (o2 : List (List IT)) (n : Nat) (g : List IT), GS σ Ov cs (outC o2) → o2[n]? = some g → g.length ≤ 1000000 → n ≤ 1000000 → hget σ mb = some (ents kE (grpK kf (l.take (i + 1)) []) 0) → ¬ Mine Ov cs mb → grpO kf (l.take (i + 1)) [] [] = o2.set n (g ++ [x]) →
        e 1 = .func 9 [] → e 5 = Ov → e 6 = .map mb → e 15 = .imm (rowsC l) false false → e 16 = .int .i64 (l.length : Int) → e 17 = .int .i64 (i : Int) → e 8 = tE x → e 10 = .int .i64 (n : Int) →
        sC G6 0 b8_20 (unw G6 0 (loopR G6 0 (RetQ [.t 4] (Qg l)) (.block 0 (.seq b8_34 .fin)) (gI l) m) (.block 1 (.seq b8_26 .fin))) e σ := by
      intro e σ Ov cs o2 n g hG hg hgl hn hmb hnm hO e1 e5 e6 e15 e16 e17 e8 e10
      have hcn : n < cs.length := by
        have := idx_lt hg
        have h2 := hG.len
        unfold outC at h2
        rw [List.length_map] at h2
        omega
      obtain ⟨c, hc⟩ : ∃ c, cs[n]? = some c := ⟨_, List.getElem?_eq_getElem hcn⟩
      obtain ⟨v, τ, d, rfl, hd, ha, hv1, hv2, hτd, hput, hG', hfr⟩ := hG.app (b := 16) (by decide) hc (outC_at hg) (by rw [List.length_map]; omega) (tE x) rfl
      have hn0 : (0 : Int) ≤ (n : Int) := by omega
      obtain ⟨q1, q2⟩ := hfr mb _ hmb hnm
      simp only [G6_app, ofD_eq, Z8, x8_20, base1, baseX, baseY, ↓reduceIte, Nat.reduceAdd, Nat.reduceSub, Nat.reduceMul, Nat.reduceEqDiff, Nat.reduceLeDiff, Nat.reduceLT, Int.reduceLT, Int.reduceLE, Int.reduceEq, Int.reduceNe, Int.reduceToNat, Int.reduceAdd, Int.reduceSub, reduceCtorEq, Nat.reduceBEq, Nat.reduceBNe, loopR_exit, loopR_ret, e5, e10, e8, e17, hn0, hcn, Int.toNat_natCast, Nat.mul_one, Nat.zero_add, hd, hc, ha, hτd, hput, hv1, hv2, hwr]
      refine ⟨l.length - (i + 1), _, _, by omega, .refl _ _ _, i + 1, mb, _, _, _, _, by omega, rfl, rfl, rfl, ?_, q1, q2, e1, e5, e6, e15, e16, rfl⟩
      rw [hO, ← outC_set]; exact hG'
    have hfind := mfind_ents kE_eq (kf x) ks 0 0
    cases hix : ix (kf x) ks with
    | some n =>
      have hks' : keysN (kf x) ks = ks := by unfold keysN; rw [hix]
      obtain ⟨g, hg⟩ : ∃ g, out[n]? = some g := ⟨_, List.getElem?_eq_getElem (by rw [← hlk]; exact ix_lt hix)⟩
      have hro : rowsN (kf x) x ks out = out.set n (g ++ [x]) := by unfold rowsN; simp only [hix, hg, Option.getD_some]
      rw [hix] at hfind
      simp only [Option.map_some, Nat.zero_add] at hfind
      simp only [G6_app, ofD_eq, Z8, base1, baseX, baseY, ↓reduceIte, Nat.reduceAdd, Nat.reduceSub, Nat.reduceMul, Nat.reduceEqDiff, Nat.reduceLeDiff, Nat.reduceLT, Int.reduceLT, Int.reduceLE, Int.reduceEq, Int.reduceNe, Int.reduceToNat, Int.reduceAdd, Int.reduceSub, reduceCtorEq, Nat.reduceBEq, Nat.reduceBNe, loopR_exit, loopR_ret, lenOf_imm, e1, e5, e6, e15, e16, e17, hmap, hlt', hlt, hge0, Int.toNat_natCast, hxr, hmb, hfind, Bool.not_true]
      exact fin _ _ Ov cs out n g hG hg (by have := row_le hks hout hg; omega) (by have := idx_lt hg; omega) (by rw [hsteK, hks']; exact hmb) hnm (by rw [hsteO, hro]) e1 e5 e6 e15 e16 e17 rfl rfl
    | none =>
      have hks' : keysN (kf x) ks = ks ++ [kf x] := by unfold keysN; rw [hix]
      have hro : rowsN (kf x) x ks out = (out ++ [[]]).set out.length ([] ++ [x]) := by unfold rowsN; simp [hix]
      obtain ⟨v, τ, ha, hv1, hv2, hvl, hG', hfr⟩ := hG.more (b := 24) (by decide) (by omega)
      obtain ⟨q1, q2⟩ := hfr mb _ hmb hnm
      have hmi := minto_ents kE_eq (k := kf x) hix
      have hl0 : lenSl Ov = some ks.length := by
        rcases hG.top with ⟨rfl, h0⟩ | ⟨d, rfl, _⟩
        · have : cs = [] := by simpa using h0
          subst this
          rw [hlk, ← hcl]; rfl
        · show some (cs.map fun c => [c]).length = _
          rw [List.length_map, hcl, hlk]
      rw [hix] at hfind
      simp only [Option.map_none] at hfind
      simp only [G6_app, ofD_eq, Z8, base1, baseX, baseY, ↓reduceIte, Nat.reduceAdd, Nat.reduceSub, Nat.reduceMul, Nat.reduceEqDiff, Nat.reduceLeDiff, Nat.reduceLT, Int.reduceLT, Int.reduceLE, Int.reduceEq, Int.reduceNe, Int.reduceToNat, Int.reduceAdd, Int.reduceSub, reduceCtorEq, Nat.reduceBEq, Nat.reduceBNe, loopR_exit, loopR_ret, lenOf_imm, e1, e5, e6, e15, e16, e17, hmap, hlt', hlt, hge0, Int.toNat_natCast, hxr, hmb, hfind, Bool.not_false, hl0, ha, q1, hmi]
      refine fin _ _ v (cs ++ [.nilslice]) (out ++ [[]]) out.length [] ?_ (by simp) (by simp) (by omega) ?_ q2 (by rw [hsteO, hro]) e1 rfl e6 e15 e16 e17 rfl ?_
      · have : outC (out ++ [[]]) = outC out ++ [[]] := by unfold outC; simp
        rw [this]
        exact hG'.frame fun j c hj hm => by rw [set_other (fun e => q2 (by rw [e]; exact hm))]; exact hj
      · rw [hsteK, hks']; exact set_same q1
      · show AV.int .i64 (ks.length : Int) = _
        rw [hlk]
  · have hie : i = l.length := by omega
    subst hie
    have hnl : ¬ ((l.length : Int) < (l.length : Int)) := by omega
    simp only [G6_app, ofD_eq, Z8, base1, baseX, baseY, ↓reduceIte, Nat.reduceAdd, Nat.reduceSub, Nat.reduceMul, Nat.reduceEqDiff, Nat.reduceLeDiff, Nat.reduceLT, Int.reduceLT, Int.reduceLE, Int.reduceEq, Int.reduceNe, Int.reduceToNat, Int.reduceAdd, Int.reduceSub, reduceCtorEq, Nat.reduceBEq, Nat.reduceBNe, loopR_exit, loopR_ret, lenOf_imm, e1, e5, e6, e15, e16, e17, hmap, hnl, decide_false]
    refine ⟨cs, ?_⟩
    rw [List.take_length] at hout
    rw [← hout]; exact hG
theorem pureO (out : List (List IT)) : ∀ g ∈ outC out, ∀ x ∈ g, x.pure = true := by
  intro g hg x hx
  obtain ⟨q, _, rfl⟩ := List.mem_map.1 hg
  obtain ⟨y, _, rfl⟩ := List.mem_map.1 hx
  rfl
theorem rows_pure (l : List IT) : (AV.imm (rowsC l) false false).pure = true := by
  rw [AV.pure]
  refine pureLL_of fun r hr => ?_
  obtain ⟨y, _, rfl⟩ := List.mem_map.1 hr
  rfl
theorem grp_tri (l : List IT) (hl : l.length ≤ 1000000) : Tri Tryz.prog 8 [.imm (rowsC l) false false, .func 9 []] [] fun r _ => r.pure = true ∧ r = immO (outC (grpO kf l [] [])) := by
  refine Tri.frozen (Q := Qg l) (Tri.of_s c8 G6_sound ?_) (fun r σ h => ?_)
  · have hmap : (rowsC l).length = l.length := by simp
    simp only [G6_app, ofD_eq, Z8, base1, baseX, baseY, ↓reduceIte, Nat.reduceAdd, Nat.reduceSub, Nat.reduceMul, Nat.reduceEqDiff, Nat.reduceLeDiff, Nat.reduceLT, Int.reduceLT, Int.reduceLE, Int.reduceEq, Int.reduceNe, Int.reduceToNat, Int.reduceAdd, Int.reduceSub, reduceCtorEq, Nat.reduceBEq, Nat.reduceBNe, lenOf_imm, hmap]
    exact sC_inv (a := b8_29) (gI l) l.length _ _ (.refl _ _ _) ⟨0, 0, .nilslice, [], [], [], Nat.zero_le _, rfl, rfl, rfl, .nil _, rfl, by rintro (h | ⟨c, h, _⟩) <;> simp [LvD] at h, rfl, rfl, rfl, rfl, rfl, rfl⟩ (gstep l hl)
  · obtain ⟨cs, hG⟩ := h
    exact ⟨_, hG.frz (pureO _), immO_pure (pureO _), rfl⟩
theorem nil_tri (v : AV) (hv : v.pure = true) : Tri Tryz.prog 8 [v, .nilfunc] [] fun r _ => r.pure = true ∧ r = .nilslice := by
  refine Tri.of_s c8 G6_sound ?_
  simp only [G6_app, ofD_eq, Z8, base1, baseX, baseY, ↓reduceIte, Nat.reduceAdd, Nat.reduceSub, Nat.reduceMul, Nat.reduceEqDiff, Nat.reduceLeDiff, Nat.reduceLT, Int.reduceLT, Int.reduceLE, Int.reduceEq, Int.reduceNe, Int.reduceToNat, Int.reduceAdd, Int.reduceSub, reduceCtorEq, Nat.reduceBEq, Nat.reduceBNe]
  first | exact ⟨rfl, rfl⟩ | rfl | trivial
def grpD (args : List AV) (σ : AHeap) (K : AV → AHeap → Prop) : Prop :=
  (∃ l, l.length ≤ 1000000 ∧ args = [.imm (rowsC l) false false, .func 9 []] ∧ K (immO (outC (grpO kf l [] []))) σ) ∨ (∃ v, v.pure = true ∧ args = [v, .nilfunc] ∧ K .nilslice σ)
theorem grpD_ok (args : List AV) (σ : AHeap) (K : AV → AHeap → Prop) (h : grpD args σ K) : Tri Tryz.prog 8 args σ K := by
  rcases h with ⟨l, hl, rfl, h⟩ | ⟨v, hv, rfl, h⟩
  · exact (Tri.pureD (by simp only [pureL, rows_pure, Bool.true_and]; rfl) (grp_tri l hl) σ).mono fun r σ' hr => by rw [hr.1, hr.2]; exact h
  · exact (Tri.pureD (by simp only [pureL, hv, Bool.true_and]; rfl) (nil_tri v hv) σ).mono fun r σ' hr => by rw [hr.1, hr.2]; exact h
end B
end Go.Proofs.YtnooejmbhdgbpaaGreatDoor.gauge

/- What the program groups: any items, by what a function says of them. No condition. -/
set_option linter.unusedVariables false
set_option linter.unusedSimpArgs false
namespace Go.Proofs.YtnooejmbhdgbpaaGreatDoor.gauge
open Go.ChangeShapes Go.WideShapes Go.ChangeAt Go.RowKit Go.Gz Go.Gz.H
section
variable {C : PCall} {n0 : Nat} {R : MExit → Env → AHeap → Prop} {k : Cont} {e : Env} {σ : AHeap}
abbrev r10_0 : List MOper := [⟨(some 4), .move (.c (.nilslice)), none⟩]
def b10_0 : SCode := .region r10_0
abbrev r10_1 : List MOper := [⟨(some 12), .move (.t 1), none⟩,
  ⟨(some 13), .bin .eql .nilf (.t 12) (.c (.nilfunc)), none⟩]
def b10_1 : SCode := .region r10_1
abbrev r10_2 : List MOper := [⟨(some 4), .move (.c (.nilslice)), none⟩]
def b10_2 : SCode := .region r10_2
def b10_3 : SCode := .seq b10_2 .ret
def b10_4 : SCode := .cond (.t 13) b10_3 .skip
def b10_5 : SCode := .seq b10_1 b10_4
abbrev r10_6 : List MOper := [⟨(some 5), .move (.c (.nilslice)), none⟩]
def b10_6 : SCode := .region r10_6
abbrev r10_7 : List MOper := [⟨(some 14), .ext .mkMap [], none⟩,
  ⟨(some 6), .move (.t 14), none⟩]
def b10_7 : SCode := .region r10_7
abbrev r10_8 : List MOper := [⟨(some 15), .move (.t 0), none⟩,
  ⟨(some 16), .lenSl (.t 15), none⟩,
  ⟨(some 17), .move (.c (.int .i64 0)), none⟩]
def b10_8 : SCode := .region r10_8
abbrev r10_9 : List MOper := [⟨(some 18), .bin .lss .num (.t 17) (.t 16), none⟩]
def b10_9 : SCode := .region r10_9
def b10_10 : SCode := .cond (.t 18) .skip (.exit 0)
abbrev r10_11 : List MOper := [⟨(some 19), .indexAddr 1 (.t 15) (.t 17), none⟩,
  ⟨(some 20), .load1 (.t 19), none⟩,
  ⟨(some 8), .move (.t 20), none⟩]
def b10_11 : SCode := .region r10_11
abbrev r10_12 : List MOper := [⟨(some 21), .move (.t 1), none⟩,
  ⟨(some 22), .move (.t 8), none⟩,
  ⟨(some 23), .callv (.t 21) [(.t 22)], none⟩,
  ⟨(some 9), .move (.t 23), none⟩]
def b10_12 : SCode := .region r10_12
abbrev r10_13 : List MOper := [⟨(some 25), .move (.t 6), none⟩,
  ⟨(some 26), .move (.t 9), none⟩,
  ⟨(some 27), .ext (.look .s (.int .i64 0) true) [(.t 25), (.t 26)], none⟩,
  ⟨(some 24), .move (.t 27), none⟩,
  ⟨(some 28), .extract (.t 24) 0, none⟩,
  ⟨(some 29), .extract (.t 24) 1, none⟩,
  ⟨(some 10), .move (.t 28), none⟩,
  ⟨(some 11), .move (.t 29), none⟩]
def b10_13 : SCode := .region r10_13
abbrev r10_14 : List MOper := [⟨(some 30), .move (.t 11), none⟩,
  ⟨(some 31), .un .not (.t 30), none⟩]
def b10_14 : SCode := .region r10_14
abbrev r10_15 : List MOper := [⟨(some 32), .move (.t 5), none⟩,
  ⟨(some 33), .lenSl (.t 32), none⟩,
  ⟨(some 10), .move (.t 33), none⟩]
def b10_15 : SCode := .region r10_15
abbrev r10_16 : List MOper := [⟨(some 34), .move (.t 6), none⟩,
  ⟨(some 35), .move (.t 9), none⟩,
  ⟨(some 36), .move (.t 10), none⟩,
  ⟨(some 37), .move (.t 5), none⟩,
  ⟨(some 38), .buildSlice [.nilslice] 1 1 [(0, 1, (.c (.nilslice)))], none⟩,
  ⟨(some 39), .append 1 24 (.t 37) (.t 38), none⟩,
  ⟨none, .ext (.mset .s) [(.t 34), (.t 35), (.t 36)], none⟩,
  ⟨(some 5), .move (.t 39), none⟩]
def b10_16 : SCode := .region r10_16
def b10_17 : SCode := .seq b10_15 b10_16
def b10_18 : SCode := .cond (.t 31) b10_17 .skip
def b10_19 : SCode := .seq b10_14 b10_18
abbrev r10_20 : List MOper := [⟨(some 40), .move (.t 5), none⟩,
  ⟨(some 41), .move (.t 10), none⟩,
  ⟨(some 42), .move (.t 5), none⟩,
  ⟨(some 43), .move (.t 10), none⟩,
  ⟨(some 44), .indexAddr 1 (.t 42) (.t 43), none⟩,
  ⟨(some 45), .load1 (.t 44), none⟩,
  ⟨(some 46), .move (.t 8), none⟩,
  ⟨(some 47), .buildSlice [.str []] 1 1 [(0, 1, (.t 46))], none⟩,
  ⟨(some 48), .append 1 16 (.t 45) (.t 47), none⟩,
  ⟨(some 49), .indexAddr 1 (.t 40) (.t 41), none⟩,
  ⟨none, .store 1 (.t 49) (.t 48), none⟩]
def b10_20 : SCode := .region r10_20
def b10_21 : SCode := .seq b10_19 b10_20
def b10_22 : SCode := .seq b10_13 b10_21
def b10_23 : SCode := .seq b10_12 b10_22
def b10_24 : SCode := .seq b10_11 b10_23
def b10_25 : SCode := .block 1 b10_24
abbrev r10_26 : List MOper := [⟨(some 50), .bin .add .num (.t 17) (.c (.int .i64 1)), none⟩,
  ⟨(some 17), .move (.t 50), none⟩]
def b10_26 : SCode := .region r10_26
def b10_27 : SCode := .seq b10_25 b10_26
def b10_28 : SCode := .seq b10_10 b10_27
def b10_29 : SCode := .seq b10_9 b10_28
def b10_30 : SCode := .loop b10_29
def b10_31 : SCode := .block 0 b10_30
def b10_32 : SCode := .seq b10_8 b10_31
abbrev r10_33 : List MOper := [⟨(some 51), .move (.t 5), none⟩,
  ⟨(some 4), .move (.t 51), none⟩]
def b10_33 : SCode := .region r10_33
def b10_34 : SCode := .seq b10_33 .ret
def b10_35 : SCode := .seq b10_32 b10_34
def b10_36 : SCode := .seq b10_7 b10_35
def b10_37 : SCode := .seq b10_6 b10_36
def b10_38 : SCode := .seq b10_5 b10_37
def b10_39 : SCode := .seq b10_0 b10_38
def s10 : SFunc := ⟨52, [.t 4], b10_39⟩
theorem c10 : sFn Tryz.prog 10 = some s10 := by kernel_rfl
theorem x10_20 : XR b10_20 r10_20 := rfl
theorem Z10 : XR b10_0 r10_0 ∧ XR b10_1 r10_1 ∧ XR b10_2 r10_2 ∧ XS b10_3 b10_2 .ret ∧ XC b10_4 (.t 13) b10_3 .skip ∧ XS b10_5 b10_1 b10_4 ∧ XR b10_6 r10_6 ∧ XR b10_7 r10_7 ∧ XR b10_8 r10_8 ∧ XR b10_9 r10_9 ∧ XC b10_10 (.t 18) .skip (.exit 0) ∧ XR b10_11 r10_11 ∧ XR b10_12 r10_12 ∧ XR b10_13 r10_13 ∧ XR b10_14 r10_14 ∧ XR b10_15 r10_15 ∧ XR b10_16 r10_16 ∧ XS b10_17 b10_15 b10_16 ∧ XC b10_18 (.t 31) b10_17 .skip ∧ XS b10_19 b10_14 b10_18 ∧ XS b10_21 b10_19 b10_20 ∧ XS b10_22 b10_13 b10_21 ∧ XS b10_23 b10_12 b10_22 ∧ XS b10_24 b10_11 b10_23 ∧ XB b10_25 1 b10_24 ∧ XR b10_26 r10_26 ∧ XS b10_27 b10_25 b10_26 ∧ XS b10_28 b10_10 b10_27 ∧ XS b10_29 b10_9 b10_28 ∧ XB b10_31 0 b10_30 ∧ XS b10_32 b10_8 b10_31 ∧ XR b10_33 r10_33 ∧ XS b10_34 b10_33 .ret ∧ XS b10_35 b10_32 b10_34 ∧ XS b10_36 b10_7 b10_35 ∧ XS b10_37 b10_6 b10_36 ∧ XS b10_38 b10_5 b10_37 ∧ XS b10_39 b10_0 b10_38 ∧ XY s10 52 b10_39 [.t 4] := ⟨rfl, rfl, rfl, rfl, sC_cond, rfl, rfl, rfl, rfl, rfl, sC_cond, rfl, rfl, rfl, rfl, rfl, rfl, rfl, sC_cond, rfl, rfl, rfl, rfl, rfl, rfl, rfl, rfl, rfl, rfl, rfl, rfl, rfl, rfl, rfl, rfl, rfl, rfl, rfl, rfl⟩
abbrev r11_0 : List MOper := [⟨(some 2), .move (.c (.str [])), none⟩]
def b11_0 : SCode := .region r11_0
abbrev r11_1 : List MOper := [⟨(some 3), .move (.t 0), none⟩,
  ⟨(some 2), .move (.t 3), none⟩]
def b11_1 : SCode := .region r11_1
def b11_2 : SCode := .seq b11_1 .ret
def b11_3 : SCode := .seq b11_0 b11_2
def s11 : SFunc := ⟨4, [.t 2], b11_3⟩
theorem c11 : sFn Tryz.prog 11 = some s11 := by kernel_rfl
theorem Z11 : XR b11_0 r11_0 ∧ XR b11_1 r11_1 ∧ XS b11_2 b11_1 .ret ∧ XS b11_3 b11_0 b11_2 ∧ XY s11 4 b11_3 [.t 2] := ⟨rfl, rfl, rfl, rfl, rfl⟩

end
set_option maxHeartbeats 4000000
set_option maxRecDepth 10000
namespace C
/-- An item, its key. -/
abbrev tE (x : List UInt8) : AV := .str x
abbrev kE (k : List UInt8) : AV := .str k
abbrev kf (x : List UInt8) : List UInt8 := x
theorem kE_eq (a b : List UInt8) : baseEq .s (kE a) (kE b) = some (decide (a = b)) := by
  rw [baseEq_s]; by_cases h : a = b <;> simp [h]
theorem of_ok (x : List UInt8) : Tri Tryz.prog 11 [tE x] [] fun r _ => r.pure = true ∧ r = kE (kf x) := by
  refine Tri.of_s c11 (noCall_sound _) ?_
  simp only [Z11, base1, baseE, baseX, baseY, ↓reduceIte, Nat.reduceAdd, Nat.reduceSub, Nat.reduceMul, Nat.reduceEqDiff, Nat.reduceLeDiff, Nat.reduceLT, Int.reduceLT, Int.reduceLE, Int.reduceEq, Int.reduceNe, Int.reduceToNat, Int.reduceAdd, Int.reduceSub, reduceCtorEq, Nat.reduceBEq, Nat.reduceBNe]
  first | exact ⟨rfl, rfl⟩ | rfl | trivial
def ofD (args : List AV) (σ : AHeap) (K : AV → AHeap → Prop) : Prop := ∃ x : List UInt8, args = [tE x] ∧ K (kE (kf x)) σ
theorem ofD_ok (args : List AV) (σ : AHeap) (K : AV → AHeap → Prop) (h : ofD args σ K) : Tri Tryz.prog 11 args σ K := by
  obtain ⟨x, rfl, h⟩ := h
  exact (Tri.pureD rfl (of_ok x) σ).mono fun r σ' hr => by rw [hr.1, hr.2]; exact h
theorem ofD_eq {x : List UInt8} {σ : AHeap} {K : AV → AHeap → Prop} : ofD [tE x] σ K = K (kE (kf x)) σ := by
  apply propext
  refine ⟨fun ⟨y, h1, h2⟩ => ?_, fun h => ⟨x, rfl, h⟩⟩
  cases h1; exact h2
/-! The same for each kind of items and keys. -/
abbrev IT := List UInt8
abbrev KT := List UInt8
abbrev rowsC (l : List IT) : List (List AV) := l.map fun x => [tE x]
def outC (out : List (List IT)) : List (List AV) := out.map fun g => g.map tE
def G6 : PCall := rowQ 11 ofD noCall
theorem G6_app {f : FuncId} {args : List AV} {σ : AHeap} {K : AV → AHeap → Prop} : G6 f args σ K = rowQ 11 ofD noCall f args σ K := _root_.id rfl
theorem G6_sound : Sound Tryz.prog G6 := rowQ_sound ofD_ok (noCall_sound _)
def Qg (l : List IT) (r : AV) (σ : AHeap) : Prop := ∃ cs, GS σ r cs (outC (grpO kf l [] []))
def gI (l : List IT) (m : Nat) (e : Env) (σ : AHeap) : Prop :=
  ∃ (i mb : Nat) (Ov : AV) (cs : List AV) (ks : List KT) (out : List (List IT)), i ≤ l.length ∧ m = l.length - i ∧ ks = grpK kf (l.take i) [] ∧ out = grpO kf (l.take i) [] [] ∧ GS σ Ov cs (outC out) ∧ hget σ mb = some (ents kE ks 0) ∧ ¬ Mine Ov cs mb ∧
    e 1 = .func 11 [] ∧ e 5 = Ov ∧ e 6 = .map mb ∧ e 15 = .imm (rowsC l) false false ∧ e 16 = .int .i64 (l.length : Int) ∧ e 17 = .int .i64 (i : Int)
theorem grpK_take {l : List IT} {i : Nat} {x : IT} (hx : l[i]? = some x) : ∀ ks, grpK kf (l.take (i + 1)) ks = keysN (kf x) (grpK kf (l.take i) ks) := by
  induction l generalizing i with
  | nil => simp at hx
  | cons y r ih =>
    intro ks
    cases i with
    | zero => simp at hx; subst hx; rfl
    | succ i => exact ih (by simpa using hx) _
theorem grpO_take {l : List IT} {i : Nat} {x : IT} (hx : l[i]? = some x) : ∀ ks out, grpO kf (l.take (i + 1)) ks out = rowsN (kf x) x (grpK kf (l.take i) ks) (grpO kf (l.take i) ks out) := by
  induction l generalizing i with
  | nil => simp at hx
  | cons y r ih =>
    intro ks out
    cases i with
    | zero => simp at hx; subst hx; rfl
    | succ i => exact ih (by simpa using hx) _ _
theorem outC_at {out : List (List IT)} {i : Nat} {g : List IT} (h : out[i]? = some g) : (outC out)[i]? = some (g.map tE) := by
  unfold outC; rw [List.getElem?_map, h]; rfl
theorem outC_set (out : List (List IT)) (i : Nat) (g : List IT) (x : IT) : (outC out).set i (g.map tE ++ [tE x]) = outC (out.set i (g ++ [x])) := by
  unfold outC; rw [List.map_set]; simp
theorem len_le {l : List IT} {i : Nat} {ks : List KT} {out : List (List IT)} (hk : ks = grpK kf (l.take i) []) (ho : out = grpO kf (l.take i) [] []) : ks.length = out.length ∧ (out.map List.length).sum ≤ l.length := by
  have h := grp_ok kf (l.take i)
  rw [← hk, ← ho] at h
  refine ⟨h.len, ?_⟩
  rw [h.sum, List.length_take]; omega
theorem sum_mem {n : Nat} : ∀ {l : List Nat}, n ∈ l → n ≤ l.sum
  | a :: r, h => by
    rcases List.mem_cons.1 h with rfl | h
    · simp
    · have := sum_mem h; simp; omega
theorem row_le {l : List IT} {i j : Nat} {ks : List KT} {out : List (List IT)} {g : List IT} (hk : ks = grpK kf (l.take i) []) (ho : out = grpO kf (l.take i) [] []) (hg : out[j]? = some g) : g.length ≤ l.length := by
  have h1 := (len_le hk ho).2
  have := sum_mem (List.mem_map_of_mem (f := List.length) (List.mem_of_getElem? hg))
  omega
theorem many_le {l : List IT} {i : Nat} {ks : List KT} {out : List (List IT)} (hk : ks = grpK kf (l.take i) []) (ho : out = grpO kf (l.take i) [] []) : out.length ≤ l.length := by
  have h := grp_ok kf (l.take i)
  rw [← hk, ← ho] at h
  have h2 : ∀ (o : List (List IT)), (∀ g ∈ o, g ≠ []) → o.length ≤ (o.map List.length).sum := by
    intro o
    induction o with
    | nil => intro _; simp
    | cons g r ih =>
      intro hg
      have h1 := ih fun q hq => hg q (by simp [hq])
      have h2 : 0 < g.length := by
        have := hg g (by simp)
        cases g with
        | nil => exact absurd rfl this
        | cons => simp
      simp only [List.length_cons, List.map_cons, List.sum_cons]; omega
  have := h2 out fun g hg => by
    obtain ⟨j, hj⟩ := List.getElem?_of_mem hg
    obtain ⟨x, r, e, _⟩ := h.pos hj
    rw [e]; simp
  have h3 := (len_le hk ho).2
  omega
theorem gstep (l : List IT) (hl : l.length ≤ 1000000) (m : Nat) (e : Env) (σ : AHeap) (h : gI l m e σ) :
    sC G6 0 b10_29 (unw G6 0 (loopR G6 0 (RetQ [.t 4] (Qg l)) (.block 0 (.seq b10_34 .fin)) (gI l) m) .fin) e σ := by
  obtain ⟨i, mb, Ov, cs, ks, out, hi, hm, hks, hout, hG, hmb, hnm, e1, e5, e6, e15, e16, e17⟩ := h
  have hmap : (rowsC l).length = l.length := by simp
  rcases Nat.lt_or_ge i l.length with hlt | hge
  · have hlt' : (i : Int) < (l.length : Int) := by omega
    have hge0 : (0 : Int) ≤ (i : Int) := by omega
    obtain ⟨x, hx⟩ : ∃ x, l[i]? = some x := ⟨_, List.getElem?_eq_getElem hlt⟩
    have hxr : (rowsC l)[i]? = some [tE x] := by simp [hx]
    have hwr : IntKind.wrap .i64 ((i : Int) + 1) = ((i + 1 : Nat) : Int) := by rw [Gz.wrap64 (by omega)]; omega
    obtain ⟨hlk, hsum⟩ := len_le hks hout
    have hmany := many_le hks hout
    have hcl : cs.length = out.length := by rw [hG.len]; simp [outC]
    have hsteK := grpK_take hx []
    have hsteO := grpO_take hx [] []
    rw [← hks] at hsteK
    rw [← hks, ← hout] at hsteO
    have fin : ∀ (e : Env) (σ : AHeap) (Ov : AV) (cs : List AV) (o2 : List (List IT)) (n : Nat) (g : List IT), GS σ Ov cs (outC o2) → o2[n]? = some g → g.length ≤ 1000000 → n ≤ 1000000 → hget σ mb = some (ents kE (grpK kf (l.take (i + 1)) []) 0) → ¬ Mine Ov cs mb → grpO kf (l.take (i + 1)) [] [] = o2.set n (g ++ [x]) →
        e 1 = .func 11 [] → e 5 = Ov → e 6 = .map mb → e 15 = .imm (rowsC l) false false → e 16 = .int .i64 (l.length : Int) → e 17 = .int .i64 (i : Int) → e 8 = tE x → e 10 = .int .i64 (n : Int) →
        sC G6 0 b10_20 (unw G6 0 (loopR G6 0 (RetQ [.t 4] (Qg l)) (.block 0 (.seq b10_34 .fin)) (gI l) m) (.block 1 (.seq b10_26 .fin))) e σ := by
      intro e σ Ov cs o2 n g hG hg hgl hn hmb hnm hO e1 e5 e6 e15 e16 e17 e8 e10
      have hcn : n < cs.length := by
        have := idx_lt hg
        have h2 := hG.len
        unfold outC at h2
        rw [List.length_map] at h2
        omega
      obtain ⟨c, hc⟩ : ∃ c, cs[n]? = some c := ⟨_, List.getElem?_eq_getElem hcn⟩
      obtain ⟨v, τ, d, rfl, hd, ha, hv1, hv2, hτd, hput, hG', hfr⟩ := hG.app (b := 16) (by decide) hc (outC_at hg) (by rw [List.length_map]; omega) (tE x) rfl
      have hn0 : (0 : Int) ≤ (n : Int) := by omega
      obtain ⟨q1, q2⟩ := hfr mb _ hmb hnm
      simp only [G6_app, ofD_eq, Z10, x10_20, base1, baseX, baseY, ↓reduceIte, Nat.reduceAdd, Nat.reduceSub, Nat.reduceMul, Nat.reduceEqDiff, Nat.reduceLeDiff, Nat.reduceLT, Int.reduceLT, Int.reduceLE, Int.reduceEq, Int.reduceNe, Int.reduceToNat, Int.reduceAdd, Int.reduceSub, reduceCtorEq, Nat.reduceBEq, Nat.reduceBNe, loopR_exit, loopR_ret, e5, e10, e8, e17, hn0, hcn, Int.toNat_natCast, Nat.mul_one, Nat.zero_add, hd, hc, ha, hτd, hput, hv1, hv2, hwr]
      refine ⟨l.length - (i + 1), _, _, by omega, .refl _ _ _, i + 1, mb, _, _, _, _, by omega, rfl, rfl, rfl, ?_, q1, q2, e1, e5, e6, e15, e16, rfl⟩
      rw [hO, ← outC_set]; exact hG'
    have hfind := mfind_ents kE_eq (kf x) ks 0 0
    cases hix : ix (kf x) ks with
    | some n =>
      have hks' : keysN (kf x) ks = ks := by unfold keysN; rw [hix]
      obtain ⟨g, hg⟩ : ∃ g, out[n]? = some g := ⟨_, List.getElem?_eq_getElem (by rw [← hlk]; exact ix_lt hix)⟩
      have hro : rowsN (kf x) x ks out = out.set n (g ++ [x]) := by unfold rowsN; simp only [hix, hg, Option.getD_some]
      rw [hix] at hfind
      simp only [Option.map_some, Nat.zero_add] at hfind
      simp only [G6_app, ofD_eq, Z10, base1, baseX, baseY, ↓reduceIte, Nat.reduceAdd, Nat.reduceSub, Nat.reduceMul, Nat.reduceEqDiff, Nat.reduceLeDiff, Nat.reduceLT, Int.reduceLT, Int.reduceLE, Int.reduceEq, Int.reduceNe, Int.reduceToNat, Int.reduceAdd, Int.reduceSub, reduceCtorEq, Nat.reduceBEq, Nat.reduceBNe, loopR_exit, loopR_ret, lenOf_imm, e1, e5, e6, e15, e16, e17, hmap, hlt', hlt, hge0, Int.toNat_natCast, hxr, hmb, hfind, Bool.not_true]
      exact fin _ _ Ov cs out n g hG hg (by have := row_le hks hout hg; omega) (by have := idx_lt hg; omega) (by rw [hsteK, hks']; exact hmb) hnm (by rw [hsteO, hro]) e1 e5 e6 e15 e16 e17 rfl rfl
    | none =>
      have hks' : keysN (kf x) ks = ks ++ [kf x] := by unfold keysN; rw [hix]
      have hro : rowsN (kf x) x ks out = (out ++ [[]]).set out.length ([] ++ [x]) := by unfold rowsN; simp [hix]
      obtain ⟨v, τ, ha, hv1, hv2, hvl, hG', hfr⟩ := hG.more (b := 24) (by decide) (by omega)
      obtain ⟨q1, q2⟩ := hfr mb _ hmb hnm
      have hmi := minto_ents kE_eq (k := kf x) hix
      have hl0 : lenSl Ov = some ks.length := by
        rcases hG.top with ⟨rfl, h0⟩ | ⟨d, rfl, _⟩
        · have : cs = [] := by simpa using h0
          subst this
          rw [hlk, ← hcl]; rfl
        · show some (cs.map fun c => [c]).length = _
          rw [List.length_map, hcl, hlk]
      rw [hix] at hfind
      simp only [Option.map_none] at hfind
      simp only [G6_app, ofD_eq, Z10, base1, baseX, baseY, ↓reduceIte, Nat.reduceAdd, Nat.reduceSub, Nat.reduceMul, Nat.reduceEqDiff, Nat.reduceLeDiff, Nat.reduceLT, Int.reduceLT, Int.reduceLE, Int.reduceEq, Int.reduceNe, Int.reduceToNat, Int.reduceAdd, Int.reduceSub, reduceCtorEq, Nat.reduceBEq, Nat.reduceBNe, loopR_exit, loopR_ret, lenOf_imm, e1, e5, e6, e15, e16, e17, hmap, hlt', hlt, hge0, Int.toNat_natCast, hxr, hmb, hfind, Bool.not_false, hl0, ha, q1, hmi]
      refine fin _ _ v (cs ++ [.nilslice]) (out ++ [[]]) out.length [] ?_ (by simp) (by simp) (by omega) ?_ q2 (by rw [hsteO, hro]) e1 rfl e6 e15 e16 e17 rfl ?_
      · have : outC (out ++ [[]]) = outC out ++ [[]] := by unfold outC; simp
        rw [this]
        exact hG'.frame fun j c hj hm => by rw [set_other (fun e => q2 (by rw [e]; exact hm))]; exact hj
      · rw [hsteK, hks']; exact set_same q1
      · show AV.int .i64 (ks.length : Int) = _
        rw [hlk]
  · have hie : i = l.length := by omega
    subst hie
    have hnl : ¬ ((l.length : Int) < (l.length : Int)) := by omega
    simp only [G6_app, ofD_eq, Z10, base1, baseX, baseY, ↓reduceIte, Nat.reduceAdd, Nat.reduceSub, Nat.reduceMul, Nat.reduceEqDiff, Nat.reduceLeDiff, Nat.reduceLT, Int.reduceLT, Int.reduceLE, Int.reduceEq, Int.reduceNe, Int.reduceToNat, Int.reduceAdd, Int.reduceSub, reduceCtorEq, Nat.reduceBEq, Nat.reduceBNe, loopR_exit, loopR_ret, lenOf_imm, e1, e5, e6, e15, e16, e17, hmap, hnl, decide_false]
    refine ⟨cs, ?_⟩
    rw [List.take_length] at hout
    rw [← hout]; exact hG
theorem pureO (out : List (List IT)) : ∀ g ∈ outC out, ∀ x ∈ g, x.pure = true := by
  intro g hg x hx
  obtain ⟨q, _, rfl⟩ := List.mem_map.1 hg
  obtain ⟨y, _, rfl⟩ := List.mem_map.1 hx
  rfl
theorem rows_pure (l : List IT) : (AV.imm (rowsC l) false false).pure = true := by
  rw [AV.pure]
  refine pureLL_of fun r hr => ?_
  obtain ⟨y, _, rfl⟩ := List.mem_map.1 hr
  rfl
theorem grp_tri (l : List IT) (hl : l.length ≤ 1000000) : Tri Tryz.prog 10 [.imm (rowsC l) false false, .func 11 []] [] fun r _ => r.pure = true ∧ r = immO (outC (grpO kf l [] [])) := by
  refine Tri.frozen (Q := Qg l) (Tri.of_s c10 G6_sound ?_) (fun r σ h => ?_)
  · have hmap : (rowsC l).length = l.length := by simp
    simp only [G6_app, ofD_eq, Z10, base1, baseX, baseY, ↓reduceIte, Nat.reduceAdd, Nat.reduceSub, Nat.reduceMul, Nat.reduceEqDiff, Nat.reduceLeDiff, Nat.reduceLT, Int.reduceLT, Int.reduceLE, Int.reduceEq, Int.reduceNe, Int.reduceToNat, Int.reduceAdd, Int.reduceSub, reduceCtorEq, Nat.reduceBEq, Nat.reduceBNe, lenOf_imm, hmap]
    exact sC_inv (a := b10_29) (gI l) l.length _ _ (.refl _ _ _) ⟨0, 0, .nilslice, [], [], [], Nat.zero_le _, rfl, rfl, rfl, .nil _, rfl, by rintro (h | ⟨c, h, _⟩) <;> simp [LvD] at h, rfl, rfl, rfl, rfl, rfl, rfl⟩ (gstep l hl)
  · obtain ⟨cs, hG⟩ := h
    exact ⟨_, hG.frz (pureO _), immO_pure (pureO _), rfl⟩
theorem nil_tri (v : AV) (hv : v.pure = true) : Tri Tryz.prog 10 [v, .nilfunc] [] fun r _ => r.pure = true ∧ r = .nilslice := by
  refine Tri.of_s c10 G6_sound ?_
  simp only [G6_app, ofD_eq, Z10, base1, baseX, baseY, ↓reduceIte, Nat.reduceAdd, Nat.reduceSub, Nat.reduceMul, Nat.reduceEqDiff, Nat.reduceLeDiff, Nat.reduceLT, Int.reduceLT, Int.reduceLE, Int.reduceEq, Int.reduceNe, Int.reduceToNat, Int.reduceAdd, Int.reduceSub, reduceCtorEq, Nat.reduceBEq, Nat.reduceBNe]
  first | exact ⟨rfl, rfl⟩ | rfl | trivial
def grpD (args : List AV) (σ : AHeap) (K : AV → AHeap → Prop) : Prop :=
  (∃ l, l.length ≤ 1000000 ∧ args = [.imm (rowsC l) false false, .func 11 []] ∧ K (immO (outC (grpO kf l [] []))) σ) ∨ (∃ v, v.pure = true ∧ args = [v, .nilfunc] ∧ K .nilslice σ)
theorem grpD_ok (args : List AV) (σ : AHeap) (K : AV → AHeap → Prop) (h : grpD args σ K) : Tri Tryz.prog 10 args σ K := by
  rcases h with ⟨l, hl, rfl, h⟩ | ⟨v, hv, rfl, h⟩
  · exact (Tri.pureD (by simp only [pureL, rows_pure, Bool.true_and]; rfl) (grp_tri l hl) σ).mono fun r σ' hr => by rw [hr.1, hr.2]; exact h
  · exact (Tri.pureD (by simp only [pureL, hv, Bool.true_and]; rfl) (nil_tri v hv) σ).mono fun r σ' hr => by rw [hr.1, hr.2]; exact h
end C
end Go.Proofs.YtnooejmbhdgbpaaGreatDoor.gauge
