/- The law gazetteerlaw23.TourLimits returns true for every input: the store's one span has sorted rows, whatever was put; each tour tells just those of its part; pages are no more by a greater limit. No condition. -/
import Derived.Test.YtmjnmnhpmbbmgaaTI
set_option linter.unusedVariables false
set_option linter.unusedSimpArgs false
namespace Go.Proofs.Ytmjnmnhpmbbmgaa.tour
open Go.ChangeShapes Go.WideShapes Go.ChangeAt Go.RowKit Go.Gz Go.Gz.H
set_option maxHeartbeats 4000000
set_option maxRecDepth 10000
def otI (σ0 : AHeap) (B S : Nat) (a b : Bs) (rows : List Rw) (m : Nat) (e : Env) (σ : AHeap) : Prop :=
  ∃ (n last : Nat) (Fv : AV), 1 ≤ n ∧ n ≤ 17 ∧ m = 17 - n ∧ Kp σ0 σ ∧ e 3 = .ptr B 0 ∧ e 5 = .ptr S 0 ∧ e 7 = Fv ∧ e 8 = .int .i64 (last : Int) ∧ e 9 = .int .i64 (n : Int) ∧
    (n ≠ 1 → Grow σ Fv 2 (recC (recsS rows a b))) ∧ (n ≤ 16 → pgT rows a b n ≤ last)
theorem pgT_mono {rows : List Rw} {a b : Bs} {n : Nat} (hn : 1 ≤ n) : pgT rows a b (n + 1) ≤ pgT rows a b n := by
  unfold pgT
  split
  · exact Nat.le_refl _
  · exact pc_mono hn
theorem lim_outer {n0 B S : Nat} {Lv : AV} {h : HD} {a b : Bs} {K : AV → AHeap → Prop} {e : Env} {σ0 : AHeap}
    (hS : StoreAt σ0 S Lv [h]) (hf : h.f = []) (ht : h.t = []) (hs : Srt h.rows) (hl : h.rows.length ≤ 20) (hB : hget σ0 B = some [.str a, .str b]) (ha : a.length ≤ 300) (hb : b.length ≤ 300)
    (e3 : e 3 = .ptr B 0) (e5 : e 5 = .ptr S 0) (e7 : e 7 = .nilslice) (e8 : e 8 = .int .i64 1073741824) (e9 : e 9 = .int .i64 1) (hK : ∀ σ, K (.bool true) σ) :
    sC U6 n0 b6_80 (unw U6 n0 (RetQ [.t 4] K) (.block 2 (.seq b6_84 .fin))) e σ0 := by
  refine sC_inv (a := b6_79) (otI σ0 B S a b h.rows) 16 _ _ (.refl _ _ _) ⟨1, 1073741824, .nilslice, by decide, by decide, rfl, Kp.refl _, e3, e5, e7, e8, e9, fun h => absurd rfl h, fun _ => by have := pgT_le (rows := h.rows) (a := a) (b := b) (n := 1) (by decide); omega⟩ ?_
  clear e3 e5 e7 e8 e9
  rintro m e σ ⟨n, last, Fv, hn1, hn17, hm, hk, e3, e5, e7, e8, e9, hF, hlast⟩
  have hS1 := hk.store hS
  have hB1 := hk _ _ hB
  have x0 : [AV.str a, .str b][0]? = some (.str a) := rfl
  have x1 : [AV.str a, .str b][1]? = some (.str b) := rfl
  by_cases h16 : (n : Int) ≤ 16
  · have h16' : n ≤ 16 := by omega
    have hla := hlast h16'
    have hwr : IntKind.wrap .i64 ((n : Int) + 1) = ((n + 1 : Nat) : Int) := by rw [Gz.wrap64 (by omega)]; omega
    simp only [U6_app, Z6, x6_87, base1, ↓reduceIte, Nat.reduceAdd, Nat.reduceSub, Nat.reduceMul, Nat.reduceEqDiff, Nat.reduceLeDiff, Nat.reduceLT, Int.reduceLT, Int.reduceLE, Int.reduceEq, Int.reduceNe, Int.reduceToNat, Int.reduceAdd, Int.reduceSub, reduceCtorEq, Nat.reduceBEq, Nat.reduceBNe, loopR_exit, loopR_ret, e3, e5, e7, e8, e9, h16, hB1, x0, x1]
    refine ⟨a, b, n, rfl, hn1, h16', by omega, by omega, fun σ1 T k1 hTf hT => ?_⟩
    simp only [U6_app, Z6, x6_87, base1, ↓reduceIte, Nat.reduceAdd, Nat.reduceSub, Nat.reduceMul, Nat.reduceEqDiff, Nat.reduceLeDiff, Nat.reduceLT, Int.reduceLT, Int.reduceLE, Int.reduceEq, Int.reduceNe, Int.reduceToNat, Int.reduceAdd, Int.reduceSub, reduceCtorEq, Nat.reduceBEq, Nat.reduceBNe, loopR_exit, loopR_ret, e3, e5, e7, e8, e9, h16]
    refine lim_inner (B := B) (S := S) (T := T) (last := last) (n := n) (Fv := Fv) hn1 h16' hS1 hf ht hs hl ⟨e3, e5, e7, e8, e9, rfl⟩ rfl k1 hT hTf ?_
    rintro e' σ2 cur Lt Pt ps ⟨q3, q5, q7, q8, q9, q10⟩ k2 hT2 hps
    have hRl : (recsS h.rows a b).length ≤ 20 := by
      have := List.length_filter_le (pS a b) h.rows
      simp only [recsS, List.length_map]; omega
    have hpl : ps.length ≤ 21 := by have := pgT_le (rows := h.rows) (a := a) (b := b) hn1; omega
    have after : ∀ (e : Env) (σ3 : AHeap) (Gv : AV), Kp σ2 σ3 → Grow σ3 Gv 2 (recC (recsS h.rows a b)) → e 3 = .ptr B 0 → e 5 = .ptr S 0 → e 7 = Gv → e 8 = .int .i64 (last : Int) → e 9 = .int .i64 (n : Int) → e 10 = .ptr T 0 →
        sC U6 n0 b6_71 (unw U6 n0 (loopR U6 n0 (RetQ [.t 4] K) (.block 2 (.seq b6_84 .fin)) (otI σ0 B S a b h.rows) m) (.block 3 (.seq b6_77 .fin))) e σ3 := by
      intro e σ3 Gv k3 hG w3 w5 w7 w8 w9 w10
      have hT3 := k3.tour hT2
      simp only [U6_app, Z6, x6_71, x6_87, base1, ↓reduceIte, Nat.reduceAdd, Nat.reduceSub, Nat.reduceMul, Nat.reduceEqDiff, Nat.reduceLeDiff, Nat.reduceLT, Int.reduceLT, Int.reduceLE, Int.reduceEq, Int.reduceNe, Int.reduceToNat, Int.reduceAdd, Int.reduceSub, reduceCtorEq, Nat.reduceBEq, Nat.reduceBNe, loopR_exit, loopR_ret, w3, w5, w7, w8, w9, w10]
      refine ⟨T, cur, b, n, true, Lt, Pt, rfl, hT3.tt, ?_⟩
      simp only [U6_app, Z6, x6_71, x6_87, base1, ↓reduceIte, Nat.reduceAdd, Nat.reduceSub, Nat.reduceMul, Nat.reduceEqDiff, Nat.reduceLeDiff, Nat.reduceLT, Int.reduceLT, Int.reduceLE, Int.reduceEq, Int.reduceNe, Int.reduceToNat, Int.reduceAdd, Int.reduceSub, reduceCtorEq, Nat.reduceBEq, Nat.reduceBNe, loopR_exit, loopR_ret, w3, w5, w7, w8, w9, w10]
      refine ⟨T, cur, b, n, true, Lt, Pt, _, ps, rfl, hT3, by omega, fun σ4 v k4 f4 g4 => ?_⟩
      simp only [U6_app, Z6, x6_71, x6_87, base1, ↓reduceIte, Nat.reduceAdd, Nat.reduceSub, Nat.reduceMul, Nat.reduceEqDiff, Nat.reduceLeDiff, Nat.reduceLT, Int.reduceLT, Int.reduceLE, Int.reduceEq, Int.reduceNe, Int.reduceToNat, Int.reduceAdd, Int.reduceSub, reduceCtorEq, Nat.reduceBEq, Nat.reduceBNe, loopR_exit, loopR_ret, w3, w5, w7, w8, w9, w10]
      refine ⟨v, Gv, _, rfl, g4, k4.grow hG, by omega, ?_⟩
      simp only [U6_app, Z6, x6_71, x6_87, base1, ↓reduceIte, Nat.reduceAdd, Nat.reduceSub, Nat.reduceMul, Nat.reduceEqDiff, Nat.reduceLeDiff, Nat.reduceLT, Int.reduceLT, Int.reduceLE, Int.reduceEq, Int.reduceNe, Int.reduceToNat, Int.reduceAdd, Int.reduceSub, reduceCtorEq, Nat.reduceBEq, Nat.reduceBNe, loopR_exit, loopR_ret, w3, w5, w7, w8, w9, w10]
      refine ⟨T, cur, b, n, true, Lt, Pt, _, ps, rfl, k4.tour hT3, by omega, fun σ5 w k5 f5 g5 => ?_⟩
      have hlw : lenSl w = some ps.length := grow_lenS ⟨g5, by simp⟩
      have hgt : ¬ (last : Int) < (ps.length : Int) := by omega
      simp only [U6_app, Z6, x6_71, x6_87, base1, ↓reduceIte, Nat.reduceAdd, Nat.reduceSub, Nat.reduceMul, Nat.reduceEqDiff, Nat.reduceLeDiff, Nat.reduceLT, Int.reduceLT, Int.reduceLE, Int.reduceEq, Int.reduceNe, Int.reduceToNat, Int.reduceAdd, Int.reduceSub, reduceCtorEq, Nat.reduceBEq, Nat.reduceBNe, loopR_exit, loopR_ret, w3, w5, w7, w8, w9, w10, hlw, Option.map_some, hgt]
      refine ⟨T, cur, b, n, true, Lt, Pt, _, ps, rfl, k5.tour (k4.tour hT3), by omega, fun σ6 u k6 f6 g6 => ?_⟩
      have hlu : lenSl u = some ps.length := grow_lenS ⟨g6, by simp⟩
      simp only [U6_app, Z6, x6_71, x6_87, base1, ↓reduceIte, Nat.reduceAdd, Nat.reduceSub, Nat.reduceMul, Nat.reduceEqDiff, Nat.reduceLeDiff, Nat.reduceLT, Int.reduceLT, Int.reduceLE, Int.reduceEq, Int.reduceNe, Int.reduceToNat, Int.reduceAdd, Int.reduceSub, reduceCtorEq, Nat.reduceBEq, Nat.reduceBNe, loopR_exit, loopR_ret, w3, w5, w7, w8, w9, w10, hlu, Option.map_some, hwr]
      rw [loopR_normal]
      exact ⟨17 - (n + 1), _, _, by omega, .refl _ _ _, n + 1, ps.length, Gv, by omega, by omega, rfl, hk.trans (k2.trans (k3.trans (k4.trans (k5.trans k6)))), w3, w5, w7, rfl, rfl, fun _ => (k4.trans (k5.trans k6)).grow hG, fun _ => by rw [hps]; exact pgT_mono hn1⟩
    by_cases hone : (n : Int) = 1
    · have hone' : n = 1 := by omega
      simp only [U6_app, Z6, x6_87, base1, ↓reduceIte, Nat.reduceAdd, Nat.reduceSub, Nat.reduceMul, Nat.reduceEqDiff, Nat.reduceLeDiff, Nat.reduceLT, Int.reduceLT, Int.reduceLE, Int.reduceEq, Int.reduceNe, Int.reduceToNat, Int.reduceAdd, Int.reduceSub, reduceCtorEq, Nat.reduceBEq, Nat.reduceBNe, loopR_exit, loopR_ret, q3, q5, q7, q8, q9, q10, hone]
      refine ⟨T, cur, b, n, true, Lt, Pt, _, ps, rfl, hT2, by omega, fun σ3 v k3 f3 g3 => ?_⟩
      simp only [U6_app, Z6, x6_87, base1, ↓reduceIte, Nat.reduceAdd, Nat.reduceSub, Nat.reduceMul, Nat.reduceEqDiff, Nat.reduceLeDiff, Nat.reduceLT, Int.reduceLT, Int.reduceLE, Int.reduceEq, Int.reduceNe, Int.reduceToNat, Int.reduceAdd, Int.reduceSub, reduceCtorEq, Nat.reduceBEq, Nat.reduceBNe, loopR_exit, loopR_ret, q3, q5, q7, q8, q9, q10]
      exact after _ σ3 v k3 g3 q3 q5 rfl q8 q9 q10
    · simp only [U6_app, Z6, x6_87, base1, ↓reduceIte, Nat.reduceAdd, Nat.reduceSub, Nat.reduceMul, Nat.reduceEqDiff, Nat.reduceLeDiff, Nat.reduceLT, Int.reduceLT, Int.reduceLE, Int.reduceEq, Int.reduceNe, Int.reduceToNat, Int.reduceAdd, Int.reduceSub, reduceCtorEq, Nat.reduceBEq, Nat.reduceBNe, loopR_exit, loopR_ret, q3, q5, q7, q8, q9, q10, hone]
      exact after _ σ2 Fv (Kp.refl _) (k2.grow (hF (by omega))) q3 q5 q7 q8 q9 q10
  · simp only [U6_app, Z6, x6_87, base1, ↓reduceIte, Nat.reduceAdd, Nat.reduceSub, Nat.reduceMul, Nat.reduceEqDiff, Nat.reduceLeDiff, Nat.reduceLT, Int.reduceLT, Int.reduceLE, Int.reduceEq, Int.reduceNe, Int.reduceToNat, Int.reduceAdd, Int.reduceSub, reduceCtorEq, Nat.reduceBEq, Nat.reduceBNe, loopR_exit, loopR_ret, e3, e5, e7, e8, e9, h16]
    exact hK _
/-! The texts. -/
def txI (B S : Nat) (a b : Bs) (texts : List Bs) (m : Nat) (e : Env) (σ : AHeap) : Prop :=
  ∃ (k : Nat) (Lv : AV) (h : HD), k ≤ texts.length ∧ m = texts.length - k ∧ StoreAt σ S Lv [h] ∧ h.f = [] ∧ h.t = [] ∧ Srt h.rows ∧ h.rows.length ≤ k ∧ nxtO h.o (k + 1) = true ∧ hget σ B = some [.str a, .str b] ∧ ¬ Own S Lv [h] B ∧
    e 0 = .imm (texts.map fun s => [.str s]) false false ∧ e 3 = .ptr B 0 ∧ e 5 = .ptr S 0 ∧ e 6 = .int .i64 (k : Int)
theorem law (texts : List Bs) (a b : Bs) (hsz : ∀ s ∈ texts, s.length ≤ 140737488351232) : sF U6 s6 [.imm (texts.map fun s => [.str s]) false false, .agg [.str a, .str b]] [] Yes := by
  have lt : (texts.map fun s => [AV.str s]).length = texts.length := by simp
  have x0 : [AV.str a, .str b][0]? = some (.str a) := rfl
  have x1 : [AV.str a, .str b][1]? = some (.str b) := rfl
  have hK : ∀ σ, Yes (.bool true) σ := fun _ => rfl
  by_cases h20 : (20 : Int) < (texts.length : Int)
  · simp only [U6_app, awakeD_eq, Z6, x6_71, x6_87, base1, ↓reduceIte, Nat.reduceAdd, Nat.reduceSub, Nat.reduceMul, Nat.reduceEqDiff, Nat.reduceLeDiff, Nat.reduceLT, Int.reduceLT, Int.reduceLE, Int.reduceEq, Int.reduceNe, Int.reduceToNat, Int.reduceAdd, Int.reduceSub, reduceCtorEq, Nat.reduceBEq, Nat.reduceBNe, lenOf_imm, lt, x0, x1, h20]
    first | exact hK _ | trivial
  by_cases ha : (300 : Int) < (a.length : Int)
  · simp only [U6_app, awakeD_eq, Z6, x6_71, x6_87, base1, ↓reduceIte, Nat.reduceAdd, Nat.reduceSub, Nat.reduceMul, Nat.reduceEqDiff, Nat.reduceLeDiff, Nat.reduceLT, Int.reduceLT, Int.reduceLE, Int.reduceEq, Int.reduceNe, Int.reduceToNat, Int.reduceAdd, Int.reduceSub, reduceCtorEq, Nat.reduceBEq, Nat.reduceBNe, lenOf_imm, lt, x0, x1, h20, ha]
    first | exact hK _ | trivial
  by_cases hb : (300 : Int) < (b.length : Int)
  · simp only [U6_app, awakeD_eq, Z6, x6_71, x6_87, base1, ↓reduceIte, Nat.reduceAdd, Nat.reduceSub, Nat.reduceMul, Nat.reduceEqDiff, Nat.reduceLeDiff, Nat.reduceLT, Int.reduceLT, Int.reduceLE, Int.reduceEq, Int.reduceNe, Int.reduceToNat, Int.reduceAdd, Int.reduceSub, reduceCtorEq, Nat.reduceBEq, Nat.reduceBNe, lenOf_imm, lt, x0, x1, h20, ha, hb]
    first | exact hK _ | trivial
  simp only [U6_app, awakeD_eq, Z6, x6_71, x6_87, base1, ↓reduceIte, Nat.reduceAdd, Nat.reduceSub, Nat.reduceMul, Nat.reduceEqDiff, Nat.reduceLeDiff, Nat.reduceLT, Int.reduceLT, Int.reduceLE, Int.reduceEq, Int.reduceNe, Int.reduceToNat, Int.reduceAdd, Int.reduceSub, reduceCtorEq, Nat.reduceBEq, Nat.reduceBNe, lenOf_imm, lt, x0, x1, h20, ha, hb]
  refine ⟨rfl, ?_⟩
  simp only [U6_app, awakeD_eq, Z6, x6_71, x6_87, base1, ↓reduceIte, Nat.reduceAdd, Nat.reduceSub, Nat.reduceMul, Nat.reduceEqDiff, Nat.reduceLeDiff, Nat.reduceLT, Int.reduceLT, Int.reduceLE, Int.reduceEq, Int.reduceNe, Int.reduceToNat, Int.reduceAdd, Int.reduceSub, reduceCtorEq, Nat.reduceBEq, Nat.reduceBNe]
  refine ⟨1, .nilslice, [], [], [], rfl, ⟨rfl, .inl ⟨rfl, rfl⟩, fun h hh => by simp at hh, fun h hh => by simp at hh, fun h hh => by simp at hh, by simp, ⟨by simp [LvD], fun h hh => by simp at hh, fun h hh => by simp at hh, fun i j h k hh => by simp at hh⟩⟩, by simp, rfl, fun h hh => by simp at hh, fun σ1 Lv hS fr => ?_⟩
  rw [List.nil_append] at hS
  have hB := (fr 0 [.str a, .str b] rfl (by decide)).1
  have hBL := (fr 0 [.str a, .str b] rfl (by decide)).2
  simp only [U6_app, awakeD_eq, Z6, x6_71, base1, ↓reduceIte, Nat.reduceAdd, Nat.reduceSub, Nat.reduceMul, Nat.reduceEqDiff, Nat.reduceLeDiff, Nat.reduceLT, Int.reduceLT, Int.reduceLE, Int.reduceEq, Int.reduceNe, Int.reduceToNat, Int.reduceAdd, Int.reduceSub, reduceCtorEq, Nat.reduceBEq, Nat.reduceBNe]
  refine sC_inv (a := b6_25) (txI 0 1 a b texts) texts.length _ _ (.refl _ _ _) ⟨0, Lv, newH [] [], Nat.zero_le _, rfl, hS, rfl, rfl, List.Pairwise.nil, Nat.le_refl _, rfl, hB, ?_, rfl, rfl, rfl, rfl⟩ ?_
  · rintro (e | e | ⟨k, hk, e⟩)
    · cases e
    · exact hBL e
    · simp at hk; subst hk
      rcases e with e | e <;> cases e
  rintro m e σ ⟨k, Lv, h, hk, hm, hS, hf, ht, hs, hl, ho, hB, hBo, e0, e3, e5, e6⟩
  by_cases hlt' : (k : Int) < (texts.length : Int)
  · have hlt : k < texts.length := by omega
    have hge0 : (0 : Int) ≤ (k : Int) := by omega
    have hwr : IntKind.wrap .i64 ((k : Int) + 1) = ((k + 1 : Nat) : Int) := by rw [Gz.wrap64 (by omega)]; omega
    obtain ⟨x, hx⟩ : ∃ x, texts[k]? = some x := ⟨_, List.getElem?_eq_getElem hlt⟩
    have hrow : (texts.map fun s => [AV.str s])[k]? = some [.str x] := by rw [List.getElem?_map, hx]; rfl
    simp only [U6_app, awakeD_eq, Z6, x6_71, base1, ↓reduceIte, Nat.reduceAdd, Nat.reduceSub, Nat.reduceMul, Nat.reduceEqDiff, Nat.reduceLeDiff, Nat.reduceLT, Int.reduceLT, Int.reduceLE, Int.reduceEq, Int.reduceNe, Int.reduceToNat, Int.reduceAdd, Int.reduceSub, reduceCtorEq, Nat.reduceBEq, Nat.reduceBNe, loopR_exit, loopR_ret, lenOf_imm, lt, e0, e3, e5, e6, hlt', hlt, hge0, Int.toNat_natCast, hrow, hwr]
    refine .inl ⟨1, k + 1, Lv, [h], x, rfl, hS, fun y hy => ?_, hsz x (List.mem_of_getElem? hx), fun r σ2 hs' hS2 hP fr => ?_⟩
    · simp at hy; subst hy
      exact ⟨ho, by omega⟩
    simp only [U6_app, awakeD_eq, Z6, x6_71, base1, ↓reduceIte, Nat.reduceAdd, Nat.reduceSub, Nat.reduceMul, Nat.reduceEqDiff, Nat.reduceLeDiff, Nat.reduceLT, Int.reduceLT, Int.reduceLE, Int.reduceEq, Int.reduceNe, Int.reduceToNat, Int.reduceAdd, Int.reduceSub, reduceCtorEq, Nat.reduceBEq, Nat.reduceBNe, loopR_exit, loopR_ret, lenOf_imm, lt, e0, e3, e5, e6, hwr]
    rw [loopR_normal]
    obtain ⟨hB2, hBo2⟩ := fr _ _ hB hBo
    rcases hP with ⟨_, rfl⟩ | ⟨_, i, y, Mv', Ov', _, hy, rfl⟩
    · exact ⟨texts.length - (k + 1), _, _, by omega, .refl _ _ _, k + 1, Lv, h, hlt, rfl, hS2, hf, ht, hs, by omega, by
        cases hoo : h.o with
        | none => rfl
        | some p =>
          rw [hoo] at ho
          have := of_decide_eq_true ho
          exact decide_eq_true (by omega), hB2, hBo2, e0, e3, e5, rfl⟩
    · have hi : i = 0 := by
        have := (List.getElem?_eq_some_iff.1 hy).1
        simp at this; exact this
      subst hi
      simp at hy; subst hy
      refine ⟨texts.length - (k + 1), _, _, by omega, .refl _ _ _, k + 1, Lv, _, hlt, rfl, hS2, hf, ht, put_srt hs _ _, ?_, decide_eq_true (by omega), hB2, hBo2, e0, e3, e5, rfl⟩
      exact Nat.le_trans putS_len (by omega)
  · have hke : k = texts.length := by omega
    simp only [U6_app, awakeD_eq, Z6, x6_71, base1, ↓reduceIte, Nat.reduceAdd, Nat.reduceSub, Nat.reduceMul, Nat.reduceEqDiff, Nat.reduceLeDiff, Nat.reduceLT, Int.reduceLT, Int.reduceLE, Int.reduceEq, Int.reduceNe, Int.reduceToNat, Int.reduceAdd, Int.reduceSub, reduceCtorEq, Nat.reduceBEq, Nat.reduceBNe, loopR_exit, loopR_ret, lenOf_imm, lt, e0, e3, e5, e6, hlt']
    simp only [U6_app, awakeD_eq, Z6, x6_71, x6_87, base1, ↓reduceIte, Nat.reduceAdd, Nat.reduceSub, Nat.reduceMul, Nat.reduceEqDiff, Nat.reduceLeDiff, Nat.reduceLT, Int.reduceLT, Int.reduceLE, Int.reduceEq, Int.reduceNe, Int.reduceToNat, Int.reduceAdd, Int.reduceSub, reduceCtorEq, Nat.reduceBEq, Nat.reduceBNe, e0, e3, e5, e6]
    exact lim_outer hS hf ht hs (by omega) hB (by omega) (by omega) e3 e5 rfl rfl rfl hK
abbrev Inp := List (List UInt8) × (List (List UInt8) × Unit)
def avs (p : Inp) : List AV := [.imm (p.1.map fun s => [.str s]) false false, .agg (p.2.1.flatMap fun s => [.str s])]
def oks (p : Inp) : Prop := (p.1.length * Try.prog.bytesOf 9 ≤ reachBytes ∧ ∀ s ∈ p.1, s.length ≤ reachBytes) ∧ ((p.2.1.length = 2 ∧ ∀ s ∈ p.2.1, s.length ≤ reachBytes) ∧ True)
theorem args : Args Try.prog Try.f6.params.toList avs oks := by
  have hp : Try.f6.params.toList = [22, 24] := by kernel_rfl
  rw [hp]
  exact .cons (arg_slice (e := 9) (by kernel_rfl) (by decide +kernel) (rd_str (by kernel_rfl))) (.cons (arg_agg (rd_array (e := 9) (by kernel_rfl) (by kernel_rfl) (rd_str (by kernel_rfl))) (.inr ⟨2, 9, by kernel_rfl⟩)) .nil)
theorem comes (y : Inp) (hy : oks y) : Tri Try.prog 6 (avs y) [] Yes := by
  obtain ⟨texts, l, u⟩ := y
  obtain ⟨⟨_, h1⟩, ⟨h2, _⟩, _⟩ := hy
  match l, h2 with
  | [a, b], _ => exact Tri.of_s c6 U6_sound (law texts a b h1)
theorem own : ownKnob Try.prog.godebug = none := by kernel_rfl
theorem laidOut : laidOutB Try.prog = true := by kernel_rfl
set_option maxRecDepth 100000 in
theorem lifted (os : Os) (started : os.Started) (H : Type) (enc : TypeId × Value → H) :
    ReturnsInHanded {} Try.checked os 6 .any (Rows.tourLimitsSpec.pre6 enc Try.prog Try.f6 Rows.tourLimitsRow.domain false) (Rows.tourLimitsSpec.post enc Try.prog Try.f6 false true false false) := by
  refine returnsInHanded_of_change_sized (C := Try.checked) own started (by kernel_rfl) Try.func6
    (ChangeSpec.witness6 (enc := enc) (C := Try.checked) false ⟨#[], #[.slice none 0 0, .agg #[.string ⟨#[]⟩, .string ⟨#[]⟩]], []⟩ 8 (by kernel_rfl) (by kernel_rfl) (by kernel_rfl) (by kernel_rfl)) ?_
  intro W base args0 ds gs before hval hW _ hz _
  have hp : Try.f6.params.toList = [22, 24] := by kernel_rfl
  refine calls_post (avs := avs) (oks := oks) laidOut ?_ (by kernel_rfl) (tb := 4) (by kernel_rfl) rfl ?_ args comes hval hW hz
  · rw [hp]; intro t ht
    have h3 : ([22, 24].all fun t => Try.prog.readableRec t && Nat.blt t Try.prog.types.size) = true := by kernel_rfl
    have := List.all_eq_true.1 h3 t ht
    rw [Bool.and_eq_true, Nat.blt_eq] at this
    exact this
  · intro ds h
    rw [hp] at h
    match ds, h with
    | [_, _], _ => rfl
end Go.Proofs.Ytmjnmnhpmbbmgaa.tour
namespace Go.Proofs.Ytmjnmnhpmbbmgaa
open Go.ChangeShapes Go.WideShapes Go.ChangeAt Go.RowKit
theorem tourLimits_holds : Rows.TourLimitsSaid :=
  OpenClaim.holds_of_wide 6 Try.f6 rfl rfl rfl rfl rfl rfl rfl ⟨rfl, rfl, rfl, rfl, rfl⟩ rfl rfl rfl rfl rfl (by kernel_rfl) Try.func6 (by kernel_rfl)
    (of_decide_eq_true (by kernel_rfl)) (by unfold Func.isWrapper; first | (rw [if_pos (by decide +kernel)]; kernel_rfl) | (rw [if_neg (by decide +kernel)]; exact ⟨rfl, rfl⟩))
    (fun os started H enc _ => tour.lifted os started H enc)
end Go.Proofs.Ytmjnmnhpmbbmgaa
