/- The reference's answer which notes may be: where it says yes the program says so. No condition. -/
import Derived.Test.YtndlgmciplckjaaNRefMay
set_option linter.unusedVariables false
set_option linter.unusedSimpArgs false
namespace Go.Proofs.Ytndlgmciplckjaa.note
open Go.ChangeShapes Go.WideShapes Go.ChangeAt Go.RowKit Go.Gz
set_option maxHeartbeats 4000000
set_option maxRecDepth 10000
structure HeadF (r : RowV) : Prop where
  h1 : decide (r.kind < 1) = false
  h2 : decide (12 < r.kind) = false
  h3 : (!partyB r.from_) = false
  h4 : (!partyB r.to) = false
  h5 : decide (r.from_ = r.to) = false
  h6 : decide (r.epoch < 0) = false
  h7 : decide (268435456 ≤ r.epoch) = false
  h8 : decide (r.tick < 0) = false
  h9 : decide (268435456 ≤ r.tick) = false
theorem numB_of {n : Int} (h : badN n = false) : numB n = true := by
  simp only [badN, Bool.or_eq_false_iff, decide_eq_false_iff_not] at h
  simp only [numB, Bool.and_eq_true, decide_eq_true_eq]; omega
theorem mayMade (r : RowV) (hd : HeadF r) (ka : r.ask.bad = false) (kr : r.rep.bad = false) (kl : ∀ x ∈ r.last, x.bad = false)
    (ask : r.kind = 1 ∨ noAskB r.ask = true) (rep : r.kind = 2 ∨ r.rep = RepV.zero) (tick : (r.kind = 5 ∨ r.kind = 6) ∨ r.tick = 0) (span : 7 ≤ r.kind ∨ (r.epoch = 0 ∧ r.sf = [] ∧ r.st = []))
    (rows : (r.kind = 8 ∨ r.kind = 9) ∨ (r.l = [] ∧ r.last = [])) (map : (r.kind = 4 ∨ r.kind = 6) ∧ atlasB r.aep r.sh = true ∧ r.aep < 268435456 ∨ ¬ (r.kind = 4 ∨ r.kind = 6) ∧ r.aep = 0 ∧ r.sh = []) : mayB (made r) = true := by
  have k1 := of_decide_eq_false hd.h1
  have k2 := of_decide_eq_false hd.h2
  have e1 := of_decide_eq_false hd.h6
  have e2 := of_decide_eq_false hd.h7
  have t1 := of_decide_eq_false hd.h8
  have t2 := of_decide_eq_false hd.h9
  have p1 := hd.h3
  have p2 := hd.h4
  simp only [Bool.not_eq_false'] at p1 p2
  have n1 : numB r.epoch = true := numB_of (by simp only [badN, Bool.or_eq_false_iff, decide_eq_false_iff_not]; omega)
  have n2 : numB r.tick = true := numB_of (by simp only [badN, Bool.or_eq_false_iff, decide_eq_false_iff_not]; omega)
  have hh : headB (made r) = true := by
    show (!decide (r.kind < 1) && (!decide (12 < r.kind) && (partyB r.from_ && (partyB r.to && (!decide (r.from_ = r.to) && (numB r.epoch && numB r.tick)))))) = true
    rw [hd.h1, hd.h2, hd.h5, p1, p2, n1, n2]; rfl
  have ht : tickB (made r) = true := by
    show (decide (r.tick = 0) || [5, 6].contains r.kind) = true
    rcases tick with (h | h) | h <;> simp [h]
  have ha : asksB (made r) = true := by
    have a1 : (decide (r.kind = 1) || noAskB r.ask) = true := by rcases ask with h | h <;> simp [h]
    have a2 : (decide (r.kind = 2) || noRepB r.rep) = true := by
      rcases rep with h | h
      · simp [h]
      · rw [h]; simp [noRepB, RepV.zero]
    show (!r.ask.bad && !r.rep.bad && (decide (r.kind = 1) || noAskB r.ask) && (decide (r.kind = 2) || noRepB r.rep)) = true
    rw [ka, kr, a1, a2]; rfl
  have hs : spansB (made r) = true := by
    simp only [spansB, Bool.and_eq_true]
    refine ⟨?_, ?_, ?_⟩
    · rw [List.all_eq_true]
      intro x hx
      obtain ⟨y, hy, rfl⟩ := List.mem_map.1 (show x ∈ r.last.map mkLa from hx)
      have hb := kl y hy
      have hq : badN y.seq = false := by
        simp only [RepV.bad, RepV.badH, List.any_cons, List.any_nil, Bool.or_false, Bool.or_eq_false_iff] at hb
        exact hb.1.1.1.1.1.2.1
      show (!y.bad && numB y.seq) = true
      rw [hb, numB_of hq]; rfl
    · show rowsB (made r) = true
      simp only [rowsB, Bool.or_eq_true, Bool.and_eq_true, decide_eq_true_eq]
      rcases rows with (h | h) | ⟨h, h'⟩
      · right; show [8, 9].contains r.kind = true; rw [h]; rfl
      · right; show [8, 9].contains r.kind = true; rw [h]; rfl
      · left; exact ⟨by show (r.l.length : Int) = 0; rw [h]; rfl, by show ((r.last.map mkLa).length : Int) = 0; rw [h']; rfl⟩
    · show spanB (made r) = true
      simp only [spanB, Bool.or_eq_true, Bool.and_eq_true, decide_eq_true_eq]
      rcases span with h | h
      · right
        show [7, 11, 10, 12, 8, 9].contains r.kind = true
        have : r.kind = 7 ∨ r.kind = 8 ∨ r.kind = 9 ∨ r.kind = 10 ∨ r.kind = 11 ∨ r.kind = 12 := by omega
        rcases this with h | h | h | h | h | h <;> rw [h] <;> rfl
      · exact .inl h
  have hm : mapsB (made r) = true := by
    show (if [4, 6].contains r.kind then atlasB r.aep r.sh && numB r.aep else decide (r.aep = 0) && decide ((r.sh.length : Int) = 0)) = true
    rcases map with ⟨h, h1, h2⟩ | ⟨h, h1, h2⟩
    · have hc : [4, 6].contains r.kind = true := by rcases h with h | h <;> rw [h] <;> rfl
      have hp : 1 ≤ r.aep := by
        simp only [atlasB, Bool.and_eq_true, Bool.not_eq_true', decide_eq_false_iff_not] at h1; omega
      rw [hc, if_pos rfl, h1, numB_of (by simp only [badN, Bool.or_eq_false_iff, decide_eq_false_iff_not]; omega)]; rfl
    · have hc : [4, 6].contains r.kind = false := by
        rw [Bool.eq_false_iff]; intro hc; apply h
        simpa using hc
      rw [hc, h1, h2]; rfl
  simp only [mayB, hh, ht, ha, hs, hm, Bool.and_self]
theorem k17_1 (r : RowV) (hp : r.smallP) (hd : HeadF r) (hk : r.kind = 1) (e : Env) (σ : AHeap) (g0 : hget σ 0 = some r.cells) (e1 : e 1 = .ptr 0 0) : sC TM 0 b17_34 (unw TM 0 (RetQ [.t 2] (MyQ r)) .fin) e σ := by
  have g0' := g0
  simp only [RowV.cells, hk] at g0'
  have hrl : r.rep.l.length ≤ 1000000000000000 := by
    have := hp.rep
    simp only [RepV.small, Bool.and_eq_true, decide_eq_true_eq] at this; omega
  simp only [TM_app, Z17, x17_34, base1, baseE, ↓reduceIte, Nat.reduceAdd, Nat.reduceSub, Nat.reduceMul, Nat.reduceEqDiff, Nat.reduceLeDiff, Nat.reduceLT, Int.reduceLT, Int.reduceLE, Int.reduceEq, Int.reduceNe, Int.reduceToNat, Int.reduceAdd, Int.reduceSub, reduceCtorEq, Nat.reduceBEq, Nat.reduceBNe, e1, g0']
  repeat' first
    | exact myNo (σ := [])
    | (refine guardK_case (fun h => ?_) (fun h => ?_) <;> simp only [TM_app, Z17, x17_34, base1, baseE, ↓reduceIte, Nat.reduceAdd, Nat.reduceSub, Nat.reduceMul, Nat.reduceEqDiff, Nat.reduceLeDiff, Nat.reduceLT, Int.reduceLT, Int.reduceLE, Int.reduceEq, Int.reduceNe, Int.reduceToNat, Int.reduceAdd, Int.reduceSub, reduceCtorEq, Nat.reduceBEq, Nat.reduceBNe, e1, g0', h])
    | (refine condK_split (fun h => ?_) (fun h => ?_) <;> simp only [TM_app, Z17, x17_34, base1, baseE, ↓reduceIte, Nat.reduceAdd, Nat.reduceSub, Nat.reduceMul, Nat.reduceEqDiff, Nat.reduceLeDiff, Nat.reduceLT, Int.reduceLT, Int.reduceLE, Int.reduceEq, Int.reduceNe, Int.reduceToNat, Int.reduceAdd, Int.reduceSub, reduceCtorEq, Nat.reduceBEq, Nat.reduceBNe, e1, g0', h])
    | (refine ⟨r.rep, rfl, hrl, fun t ht => ?_⟩; simp only [TM_app, Z17, x17_34, base1, baseE, ↓reduceIte, Nat.reduceAdd, Nat.reduceSub, Nat.reduceMul, Nat.reduceEqDiff, Nat.reduceLeDiff, Nat.reduceLT, Int.reduceLT, Int.reduceLE, Int.reduceEq, Int.reduceNe, Int.reduceToNat, Int.reduceAdd, Int.reduceSub, reduceCtorEq, Nat.reduceBEq, Nat.reduceBNe, e1, g0'])
  all_goals
    refine rest17 r hp false (fun ka kr kl km => ?_) _ _ g0 e1 rfl
    clear g0 g0' e1 hrl
    refine mayMade r hd ka kr kl ?_ ?_ ?_ ?_ ?_ ?_
    · first | exact .inl hk | exact .inr (by simp_all [noAskB])
    · first | exact .inl hk | exact .inr (by simp_all)
    · first | exact .inl (by omega) | exact .inr (by simp_all)
    · first | exact .inl (by omega) | exact .inr (by simp_all)
    · first | exact .inl (by omega) | exact .inr (by simp_all)
    · first | exact .inl ⟨by omega, (km rfl).1, (km rfl).2⟩ | exact .inr ⟨by omega, by simp_all⟩
theorem k17_2 (r : RowV) (hp : r.smallP) (hd : HeadF r) (hk : r.kind = 2) (e : Env) (σ : AHeap) (g0 : hget σ 0 = some r.cells) (e1 : e 1 = .ptr 0 0) : sC TM 0 b17_34 (unw TM 0 (RetQ [.t 2] (MyQ r)) .fin) e σ := by
  have g0' := g0
  simp only [RowV.cells, hk] at g0'
  have hrl : r.rep.l.length ≤ 1000000000000000 := by
    have := hp.rep
    simp only [RepV.small, Bool.and_eq_true, decide_eq_true_eq] at this; omega
  simp only [TM_app, Z17, x17_34, base1, baseE, ↓reduceIte, Nat.reduceAdd, Nat.reduceSub, Nat.reduceMul, Nat.reduceEqDiff, Nat.reduceLeDiff, Nat.reduceLT, Int.reduceLT, Int.reduceLE, Int.reduceEq, Int.reduceNe, Int.reduceToNat, Int.reduceAdd, Int.reduceSub, reduceCtorEq, Nat.reduceBEq, Nat.reduceBNe, e1, g0']
  repeat' first
    | exact myNo (σ := [])
    | (refine guardK_case (fun h => ?_) (fun h => ?_) <;> simp only [TM_app, Z17, x17_34, base1, baseE, ↓reduceIte, Nat.reduceAdd, Nat.reduceSub, Nat.reduceMul, Nat.reduceEqDiff, Nat.reduceLeDiff, Nat.reduceLT, Int.reduceLT, Int.reduceLE, Int.reduceEq, Int.reduceNe, Int.reduceToNat, Int.reduceAdd, Int.reduceSub, reduceCtorEq, Nat.reduceBEq, Nat.reduceBNe, e1, g0', h])
    | (refine condK_split (fun h => ?_) (fun h => ?_) <;> simp only [TM_app, Z17, x17_34, base1, baseE, ↓reduceIte, Nat.reduceAdd, Nat.reduceSub, Nat.reduceMul, Nat.reduceEqDiff, Nat.reduceLeDiff, Nat.reduceLT, Int.reduceLT, Int.reduceLE, Int.reduceEq, Int.reduceNe, Int.reduceToNat, Int.reduceAdd, Int.reduceSub, reduceCtorEq, Nat.reduceBEq, Nat.reduceBNe, e1, g0', h])
    | (refine ⟨r.rep, rfl, hrl, fun t ht => ?_⟩; simp only [TM_app, Z17, x17_34, base1, baseE, ↓reduceIte, Nat.reduceAdd, Nat.reduceSub, Nat.reduceMul, Nat.reduceEqDiff, Nat.reduceLeDiff, Nat.reduceLT, Int.reduceLT, Int.reduceLE, Int.reduceEq, Int.reduceNe, Int.reduceToNat, Int.reduceAdd, Int.reduceSub, reduceCtorEq, Nat.reduceBEq, Nat.reduceBNe, e1, g0'])
  all_goals
    refine rest17 r hp false (fun ka kr kl km => ?_) _ _ g0 e1 rfl
    clear g0 g0' e1 hrl
    refine mayMade r hd ka kr kl ?_ ?_ ?_ ?_ ?_ ?_
    · first | exact .inl hk | exact .inr (by simp_all [noAskB])
    · first | exact .inl hk | exact .inr (by simp_all)
    · first | exact .inl (by omega) | exact .inr (by simp_all)
    · first | exact .inl (by omega) | exact .inr (by simp_all)
    · first | exact .inl (by omega) | exact .inr (by simp_all)
    · first | exact .inl ⟨by omega, (km rfl).1, (km rfl).2⟩ | exact .inr ⟨by omega, by simp_all⟩
theorem k17_3 (r : RowV) (hp : r.smallP) (hd : HeadF r) (hk : r.kind = 3) (e : Env) (σ : AHeap) (g0 : hget σ 0 = some r.cells) (e1 : e 1 = .ptr 0 0) : sC TM 0 b17_34 (unw TM 0 (RetQ [.t 2] (MyQ r)) .fin) e σ := by
  have g0' := g0
  simp only [RowV.cells, hk] at g0'
  have hrl : r.rep.l.length ≤ 1000000000000000 := by
    have := hp.rep
    simp only [RepV.small, Bool.and_eq_true, decide_eq_true_eq] at this; omega
  simp only [TM_app, Z17, x17_34, base1, baseE, ↓reduceIte, Nat.reduceAdd, Nat.reduceSub, Nat.reduceMul, Nat.reduceEqDiff, Nat.reduceLeDiff, Nat.reduceLT, Int.reduceLT, Int.reduceLE, Int.reduceEq, Int.reduceNe, Int.reduceToNat, Int.reduceAdd, Int.reduceSub, reduceCtorEq, Nat.reduceBEq, Nat.reduceBNe, e1, g0']
  repeat' first
    | exact myNo (σ := [])
    | (refine guardK_case (fun h => ?_) (fun h => ?_) <;> simp only [TM_app, Z17, x17_34, base1, baseE, ↓reduceIte, Nat.reduceAdd, Nat.reduceSub, Nat.reduceMul, Nat.reduceEqDiff, Nat.reduceLeDiff, Nat.reduceLT, Int.reduceLT, Int.reduceLE, Int.reduceEq, Int.reduceNe, Int.reduceToNat, Int.reduceAdd, Int.reduceSub, reduceCtorEq, Nat.reduceBEq, Nat.reduceBNe, e1, g0', h])
    | (refine condK_split (fun h => ?_) (fun h => ?_) <;> simp only [TM_app, Z17, x17_34, base1, baseE, ↓reduceIte, Nat.reduceAdd, Nat.reduceSub, Nat.reduceMul, Nat.reduceEqDiff, Nat.reduceLeDiff, Nat.reduceLT, Int.reduceLT, Int.reduceLE, Int.reduceEq, Int.reduceNe, Int.reduceToNat, Int.reduceAdd, Int.reduceSub, reduceCtorEq, Nat.reduceBEq, Nat.reduceBNe, e1, g0', h])
    | (refine ⟨r.rep, rfl, hrl, fun t ht => ?_⟩; simp only [TM_app, Z17, x17_34, base1, baseE, ↓reduceIte, Nat.reduceAdd, Nat.reduceSub, Nat.reduceMul, Nat.reduceEqDiff, Nat.reduceLeDiff, Nat.reduceLT, Int.reduceLT, Int.reduceLE, Int.reduceEq, Int.reduceNe, Int.reduceToNat, Int.reduceAdd, Int.reduceSub, reduceCtorEq, Nat.reduceBEq, Nat.reduceBNe, e1, g0'])
  all_goals
    refine rest17 r hp false (fun ka kr kl km => ?_) _ _ g0 e1 rfl
    clear g0 g0' e1 hrl
    refine mayMade r hd ka kr kl ?_ ?_ ?_ ?_ ?_ ?_
    · first | exact .inl hk | exact .inr (by simp_all [noAskB])
    · first | exact .inl hk | exact .inr (by simp_all)
    · first | exact .inl (by omega) | exact .inr (by simp_all)
    · first | exact .inl (by omega) | exact .inr (by simp_all)
    · first | exact .inl (by omega) | exact .inr (by simp_all)
    · first | exact .inl ⟨by omega, (km rfl).1, (km rfl).2⟩ | exact .inr ⟨by omega, by simp_all⟩
theorem k17_4 (r : RowV) (hp : r.smallP) (hd : HeadF r) (hk : r.kind = 4) (e : Env) (σ : AHeap) (g0 : hget σ 0 = some r.cells) (e1 : e 1 = .ptr 0 0) : sC TM 0 b17_34 (unw TM 0 (RetQ [.t 2] (MyQ r)) .fin) e σ := by
  have g0' := g0
  simp only [RowV.cells, hk] at g0'
  have hrl : r.rep.l.length ≤ 1000000000000000 := by
    have := hp.rep
    simp only [RepV.small, Bool.and_eq_true, decide_eq_true_eq] at this; omega
  simp only [TM_app, Z17, x17_34, base1, baseE, ↓reduceIte, Nat.reduceAdd, Nat.reduceSub, Nat.reduceMul, Nat.reduceEqDiff, Nat.reduceLeDiff, Nat.reduceLT, Int.reduceLT, Int.reduceLE, Int.reduceEq, Int.reduceNe, Int.reduceToNat, Int.reduceAdd, Int.reduceSub, reduceCtorEq, Nat.reduceBEq, Nat.reduceBNe, e1, g0']
  repeat' first
    | exact myNo (σ := [])
    | (refine guardK_case (fun h => ?_) (fun h => ?_) <;> simp only [TM_app, Z17, x17_34, base1, baseE, ↓reduceIte, Nat.reduceAdd, Nat.reduceSub, Nat.reduceMul, Nat.reduceEqDiff, Nat.reduceLeDiff, Nat.reduceLT, Int.reduceLT, Int.reduceLE, Int.reduceEq, Int.reduceNe, Int.reduceToNat, Int.reduceAdd, Int.reduceSub, reduceCtorEq, Nat.reduceBEq, Nat.reduceBNe, e1, g0', h])
    | (refine condK_split (fun h => ?_) (fun h => ?_) <;> simp only [TM_app, Z17, x17_34, base1, baseE, ↓reduceIte, Nat.reduceAdd, Nat.reduceSub, Nat.reduceMul, Nat.reduceEqDiff, Nat.reduceLeDiff, Nat.reduceLT, Int.reduceLT, Int.reduceLE, Int.reduceEq, Int.reduceNe, Int.reduceToNat, Int.reduceAdd, Int.reduceSub, reduceCtorEq, Nat.reduceBEq, Nat.reduceBNe, e1, g0', h])
    | (refine ⟨r.rep, rfl, hrl, fun t ht => ?_⟩; simp only [TM_app, Z17, x17_34, base1, baseE, ↓reduceIte, Nat.reduceAdd, Nat.reduceSub, Nat.reduceMul, Nat.reduceEqDiff, Nat.reduceLeDiff, Nat.reduceLT, Int.reduceLT, Int.reduceLE, Int.reduceEq, Int.reduceNe, Int.reduceToNat, Int.reduceAdd, Int.reduceSub, reduceCtorEq, Nat.reduceBEq, Nat.reduceBNe, e1, g0'])
  all_goals
    refine rest17 r hp true (fun ka kr kl km => ?_) _ _ g0 e1 rfl
    clear g0 g0' e1 hrl
    refine mayMade r hd ka kr kl ?_ ?_ ?_ ?_ ?_ ?_
    · first | exact .inl hk | exact .inr (by simp_all [noAskB])
    · first | exact .inl hk | exact .inr (by simp_all)
    · first | exact .inl (by omega) | exact .inr (by simp_all)
    · first | exact .inl (by omega) | exact .inr (by simp_all)
    · first | exact .inl (by omega) | exact .inr (by simp_all)
    · first | exact .inl ⟨by omega, (km rfl).1, (km rfl).2⟩ | exact .inr ⟨by omega, by simp_all⟩
theorem k17_5 (r : RowV) (hp : r.smallP) (hd : HeadF r) (hk : r.kind = 5) (e : Env) (σ : AHeap) (g0 : hget σ 0 = some r.cells) (e1 : e 1 = .ptr 0 0) : sC TM 0 b17_34 (unw TM 0 (RetQ [.t 2] (MyQ r)) .fin) e σ := by
  have g0' := g0
  simp only [RowV.cells, hk] at g0'
  have hrl : r.rep.l.length ≤ 1000000000000000 := by
    have := hp.rep
    simp only [RepV.small, Bool.and_eq_true, decide_eq_true_eq] at this; omega
  simp only [TM_app, Z17, x17_34, base1, baseE, ↓reduceIte, Nat.reduceAdd, Nat.reduceSub, Nat.reduceMul, Nat.reduceEqDiff, Nat.reduceLeDiff, Nat.reduceLT, Int.reduceLT, Int.reduceLE, Int.reduceEq, Int.reduceNe, Int.reduceToNat, Int.reduceAdd, Int.reduceSub, reduceCtorEq, Nat.reduceBEq, Nat.reduceBNe, e1, g0']
  repeat' first
    | exact myNo (σ := [])
    | (refine guardK_case (fun h => ?_) (fun h => ?_) <;> simp only [TM_app, Z17, x17_34, base1, baseE, ↓reduceIte, Nat.reduceAdd, Nat.reduceSub, Nat.reduceMul, Nat.reduceEqDiff, Nat.reduceLeDiff, Nat.reduceLT, Int.reduceLT, Int.reduceLE, Int.reduceEq, Int.reduceNe, Int.reduceToNat, Int.reduceAdd, Int.reduceSub, reduceCtorEq, Nat.reduceBEq, Nat.reduceBNe, e1, g0', h])
    | (refine condK_split (fun h => ?_) (fun h => ?_) <;> simp only [TM_app, Z17, x17_34, base1, baseE, ↓reduceIte, Nat.reduceAdd, Nat.reduceSub, Nat.reduceMul, Nat.reduceEqDiff, Nat.reduceLeDiff, Nat.reduceLT, Int.reduceLT, Int.reduceLE, Int.reduceEq, Int.reduceNe, Int.reduceToNat, Int.reduceAdd, Int.reduceSub, reduceCtorEq, Nat.reduceBEq, Nat.reduceBNe, e1, g0', h])
    | (refine ⟨r.rep, rfl, hrl, fun t ht => ?_⟩; simp only [TM_app, Z17, x17_34, base1, baseE, ↓reduceIte, Nat.reduceAdd, Nat.reduceSub, Nat.reduceMul, Nat.reduceEqDiff, Nat.reduceLeDiff, Nat.reduceLT, Int.reduceLT, Int.reduceLE, Int.reduceEq, Int.reduceNe, Int.reduceToNat, Int.reduceAdd, Int.reduceSub, reduceCtorEq, Nat.reduceBEq, Nat.reduceBNe, e1, g0'])
  all_goals
    refine rest17 r hp false (fun ka kr kl km => ?_) _ _ g0 e1 rfl
    clear g0 g0' e1 hrl
    refine mayMade r hd ka kr kl ?_ ?_ ?_ ?_ ?_ ?_
    · first | exact .inl hk | exact .inr (by simp_all [noAskB])
    · first | exact .inl hk | exact .inr (by simp_all)
    · first | exact .inl (by omega) | exact .inr (by simp_all)
    · first | exact .inl (by omega) | exact .inr (by simp_all)
    · first | exact .inl (by omega) | exact .inr (by simp_all)
    · first | exact .inl ⟨by omega, (km rfl).1, (km rfl).2⟩ | exact .inr ⟨by omega, by simp_all⟩
theorem k17_6 (r : RowV) (hp : r.smallP) (hd : HeadF r) (hk : r.kind = 6) (e : Env) (σ : AHeap) (g0 : hget σ 0 = some r.cells) (e1 : e 1 = .ptr 0 0) : sC TM 0 b17_34 (unw TM 0 (RetQ [.t 2] (MyQ r)) .fin) e σ := by
  have g0' := g0
  simp only [RowV.cells, hk] at g0'
  have hrl : r.rep.l.length ≤ 1000000000000000 := by
    have := hp.rep
    simp only [RepV.small, Bool.and_eq_true, decide_eq_true_eq] at this; omega
  simp only [TM_app, Z17, x17_34, base1, baseE, ↓reduceIte, Nat.reduceAdd, Nat.reduceSub, Nat.reduceMul, Nat.reduceEqDiff, Nat.reduceLeDiff, Nat.reduceLT, Int.reduceLT, Int.reduceLE, Int.reduceEq, Int.reduceNe, Int.reduceToNat, Int.reduceAdd, Int.reduceSub, reduceCtorEq, Nat.reduceBEq, Nat.reduceBNe, e1, g0']
  repeat' first
    | exact myNo (σ := [])
    | (refine guardK_case (fun h => ?_) (fun h => ?_) <;> simp only [TM_app, Z17, x17_34, base1, baseE, ↓reduceIte, Nat.reduceAdd, Nat.reduceSub, Nat.reduceMul, Nat.reduceEqDiff, Nat.reduceLeDiff, Nat.reduceLT, Int.reduceLT, Int.reduceLE, Int.reduceEq, Int.reduceNe, Int.reduceToNat, Int.reduceAdd, Int.reduceSub, reduceCtorEq, Nat.reduceBEq, Nat.reduceBNe, e1, g0', h])
    | (refine condK_split (fun h => ?_) (fun h => ?_) <;> simp only [TM_app, Z17, x17_34, base1, baseE, ↓reduceIte, Nat.reduceAdd, Nat.reduceSub, Nat.reduceMul, Nat.reduceEqDiff, Nat.reduceLeDiff, Nat.reduceLT, Int.reduceLT, Int.reduceLE, Int.reduceEq, Int.reduceNe, Int.reduceToNat, Int.reduceAdd, Int.reduceSub, reduceCtorEq, Nat.reduceBEq, Nat.reduceBNe, e1, g0', h])
    | (refine ⟨r.rep, rfl, hrl, fun t ht => ?_⟩; simp only [TM_app, Z17, x17_34, base1, baseE, ↓reduceIte, Nat.reduceAdd, Nat.reduceSub, Nat.reduceMul, Nat.reduceEqDiff, Nat.reduceLeDiff, Nat.reduceLT, Int.reduceLT, Int.reduceLE, Int.reduceEq, Int.reduceNe, Int.reduceToNat, Int.reduceAdd, Int.reduceSub, reduceCtorEq, Nat.reduceBEq, Nat.reduceBNe, e1, g0'])
  all_goals
    refine rest17 r hp true (fun ka kr kl km => ?_) _ _ g0 e1 rfl
    clear g0 g0' e1 hrl
    refine mayMade r hd ka kr kl ?_ ?_ ?_ ?_ ?_ ?_
    · first | exact .inl hk | exact .inr (by simp_all [noAskB])
    · first | exact .inl hk | exact .inr (by simp_all)
    · first | exact .inl (by omega) | exact .inr (by simp_all)
    · first | exact .inl (by omega) | exact .inr (by simp_all)
    · first | exact .inl (by omega) | exact .inr (by simp_all)
    · first | exact .inl ⟨by omega, (km rfl).1, (km rfl).2⟩ | exact .inr ⟨by omega, by simp_all⟩
theorem k17_7 (r : RowV) (hp : r.smallP) (hd : HeadF r) (hk : r.kind = 7) (e : Env) (σ : AHeap) (g0 : hget σ 0 = some r.cells) (e1 : e 1 = .ptr 0 0) : sC TM 0 b17_34 (unw TM 0 (RetQ [.t 2] (MyQ r)) .fin) e σ := by
  have g0' := g0
  simp only [RowV.cells, hk] at g0'
  have hrl : r.rep.l.length ≤ 1000000000000000 := by
    have := hp.rep
    simp only [RepV.small, Bool.and_eq_true, decide_eq_true_eq] at this; omega
  simp only [TM_app, Z17, x17_34, base1, baseE, ↓reduceIte, Nat.reduceAdd, Nat.reduceSub, Nat.reduceMul, Nat.reduceEqDiff, Nat.reduceLeDiff, Nat.reduceLT, Int.reduceLT, Int.reduceLE, Int.reduceEq, Int.reduceNe, Int.reduceToNat, Int.reduceAdd, Int.reduceSub, reduceCtorEq, Nat.reduceBEq, Nat.reduceBNe, e1, g0']
  repeat' first
    | exact myNo (σ := [])
    | (refine guardK_case (fun h => ?_) (fun h => ?_) <;> simp only [TM_app, Z17, x17_34, base1, baseE, ↓reduceIte, Nat.reduceAdd, Nat.reduceSub, Nat.reduceMul, Nat.reduceEqDiff, Nat.reduceLeDiff, Nat.reduceLT, Int.reduceLT, Int.reduceLE, Int.reduceEq, Int.reduceNe, Int.reduceToNat, Int.reduceAdd, Int.reduceSub, reduceCtorEq, Nat.reduceBEq, Nat.reduceBNe, e1, g0', h])
    | (refine condK_split (fun h => ?_) (fun h => ?_) <;> simp only [TM_app, Z17, x17_34, base1, baseE, ↓reduceIte, Nat.reduceAdd, Nat.reduceSub, Nat.reduceMul, Nat.reduceEqDiff, Nat.reduceLeDiff, Nat.reduceLT, Int.reduceLT, Int.reduceLE, Int.reduceEq, Int.reduceNe, Int.reduceToNat, Int.reduceAdd, Int.reduceSub, reduceCtorEq, Nat.reduceBEq, Nat.reduceBNe, e1, g0', h])
    | (refine ⟨r.rep, rfl, hrl, fun t ht => ?_⟩; simp only [TM_app, Z17, x17_34, base1, baseE, ↓reduceIte, Nat.reduceAdd, Nat.reduceSub, Nat.reduceMul, Nat.reduceEqDiff, Nat.reduceLeDiff, Nat.reduceLT, Int.reduceLT, Int.reduceLE, Int.reduceEq, Int.reduceNe, Int.reduceToNat, Int.reduceAdd, Int.reduceSub, reduceCtorEq, Nat.reduceBEq, Nat.reduceBNe, e1, g0'])
  all_goals
    refine rest17 r hp false (fun ka kr kl km => ?_) _ _ g0 e1 rfl
    clear g0 g0' e1 hrl
    refine mayMade r hd ka kr kl ?_ ?_ ?_ ?_ ?_ ?_
    · first | exact .inl hk | exact .inr (by simp_all [noAskB])
    · first | exact .inl hk | exact .inr (by simp_all)
    · first | exact .inl (by omega) | exact .inr (by simp_all)
    · first | exact .inl (by omega) | exact .inr (by simp_all)
    · first | exact .inl (by omega) | exact .inr (by simp_all)
    · first | exact .inl ⟨by omega, (km rfl).1, (km rfl).2⟩ | exact .inr ⟨by omega, by simp_all⟩
theorem k17_8 (r : RowV) (hp : r.smallP) (hd : HeadF r) (hk : r.kind = 8) (e : Env) (σ : AHeap) (g0 : hget σ 0 = some r.cells) (e1 : e 1 = .ptr 0 0) : sC TM 0 b17_34 (unw TM 0 (RetQ [.t 2] (MyQ r)) .fin) e σ := by
  have g0' := g0
  simp only [RowV.cells, hk] at g0'
  have hrl : r.rep.l.length ≤ 1000000000000000 := by
    have := hp.rep
    simp only [RepV.small, Bool.and_eq_true, decide_eq_true_eq] at this; omega
  simp only [TM_app, Z17, x17_34, base1, baseE, ↓reduceIte, Nat.reduceAdd, Nat.reduceSub, Nat.reduceMul, Nat.reduceEqDiff, Nat.reduceLeDiff, Nat.reduceLT, Int.reduceLT, Int.reduceLE, Int.reduceEq, Int.reduceNe, Int.reduceToNat, Int.reduceAdd, Int.reduceSub, reduceCtorEq, Nat.reduceBEq, Nat.reduceBNe, e1, g0']
  repeat' first
    | exact myNo (σ := [])
    | (refine guardK_case (fun h => ?_) (fun h => ?_) <;> simp only [TM_app, Z17, x17_34, base1, baseE, ↓reduceIte, Nat.reduceAdd, Nat.reduceSub, Nat.reduceMul, Nat.reduceEqDiff, Nat.reduceLeDiff, Nat.reduceLT, Int.reduceLT, Int.reduceLE, Int.reduceEq, Int.reduceNe, Int.reduceToNat, Int.reduceAdd, Int.reduceSub, reduceCtorEq, Nat.reduceBEq, Nat.reduceBNe, e1, g0', h])
    | (refine condK_split (fun h => ?_) (fun h => ?_) <;> simp only [TM_app, Z17, x17_34, base1, baseE, ↓reduceIte, Nat.reduceAdd, Nat.reduceSub, Nat.reduceMul, Nat.reduceEqDiff, Nat.reduceLeDiff, Nat.reduceLT, Int.reduceLT, Int.reduceLE, Int.reduceEq, Int.reduceNe, Int.reduceToNat, Int.reduceAdd, Int.reduceSub, reduceCtorEq, Nat.reduceBEq, Nat.reduceBNe, e1, g0', h])
    | (refine ⟨r.rep, rfl, hrl, fun t ht => ?_⟩; simp only [TM_app, Z17, x17_34, base1, baseE, ↓reduceIte, Nat.reduceAdd, Nat.reduceSub, Nat.reduceMul, Nat.reduceEqDiff, Nat.reduceLeDiff, Nat.reduceLT, Int.reduceLT, Int.reduceLE, Int.reduceEq, Int.reduceNe, Int.reduceToNat, Int.reduceAdd, Int.reduceSub, reduceCtorEq, Nat.reduceBEq, Nat.reduceBNe, e1, g0'])
  all_goals
    refine rest17 r hp false (fun ka kr kl km => ?_) _ _ g0 e1 rfl
    clear g0 g0' e1 hrl
    refine mayMade r hd ka kr kl ?_ ?_ ?_ ?_ ?_ ?_
    · first | exact .inl hk | exact .inr (by simp_all [noAskB])
    · first | exact .inl hk | exact .inr (by simp_all)
    · first | exact .inl (by omega) | exact .inr (by simp_all)
    · first | exact .inl (by omega) | exact .inr (by simp_all)
    · first | exact .inl (by omega) | exact .inr (by simp_all)
    · first | exact .inl ⟨by omega, (km rfl).1, (km rfl).2⟩ | exact .inr ⟨by omega, by simp_all⟩
theorem k17_9 (r : RowV) (hp : r.smallP) (hd : HeadF r) (hk : r.kind = 9) (e : Env) (σ : AHeap) (g0 : hget σ 0 = some r.cells) (e1 : e 1 = .ptr 0 0) : sC TM 0 b17_34 (unw TM 0 (RetQ [.t 2] (MyQ r)) .fin) e σ := by
  have g0' := g0
  simp only [RowV.cells, hk] at g0'
  have hrl : r.rep.l.length ≤ 1000000000000000 := by
    have := hp.rep
    simp only [RepV.small, Bool.and_eq_true, decide_eq_true_eq] at this; omega
  simp only [TM_app, Z17, x17_34, base1, baseE, ↓reduceIte, Nat.reduceAdd, Nat.reduceSub, Nat.reduceMul, Nat.reduceEqDiff, Nat.reduceLeDiff, Nat.reduceLT, Int.reduceLT, Int.reduceLE, Int.reduceEq, Int.reduceNe, Int.reduceToNat, Int.reduceAdd, Int.reduceSub, reduceCtorEq, Nat.reduceBEq, Nat.reduceBNe, e1, g0']
  repeat' first
    | exact myNo (σ := [])
    | (refine guardK_case (fun h => ?_) (fun h => ?_) <;> simp only [TM_app, Z17, x17_34, base1, baseE, ↓reduceIte, Nat.reduceAdd, Nat.reduceSub, Nat.reduceMul, Nat.reduceEqDiff, Nat.reduceLeDiff, Nat.reduceLT, Int.reduceLT, Int.reduceLE, Int.reduceEq, Int.reduceNe, Int.reduceToNat, Int.reduceAdd, Int.reduceSub, reduceCtorEq, Nat.reduceBEq, Nat.reduceBNe, e1, g0', h])
    | (refine condK_split (fun h => ?_) (fun h => ?_) <;> simp only [TM_app, Z17, x17_34, base1, baseE, ↓reduceIte, Nat.reduceAdd, Nat.reduceSub, Nat.reduceMul, Nat.reduceEqDiff, Nat.reduceLeDiff, Nat.reduceLT, Int.reduceLT, Int.reduceLE, Int.reduceEq, Int.reduceNe, Int.reduceToNat, Int.reduceAdd, Int.reduceSub, reduceCtorEq, Nat.reduceBEq, Nat.reduceBNe, e1, g0', h])
    | (refine ⟨r.rep, rfl, hrl, fun t ht => ?_⟩; simp only [TM_app, Z17, x17_34, base1, baseE, ↓reduceIte, Nat.reduceAdd, Nat.reduceSub, Nat.reduceMul, Nat.reduceEqDiff, Nat.reduceLeDiff, Nat.reduceLT, Int.reduceLT, Int.reduceLE, Int.reduceEq, Int.reduceNe, Int.reduceToNat, Int.reduceAdd, Int.reduceSub, reduceCtorEq, Nat.reduceBEq, Nat.reduceBNe, e1, g0'])
  all_goals
    refine rest17 r hp false (fun ka kr kl km => ?_) _ _ g0 e1 rfl
    clear g0 g0' e1 hrl
    refine mayMade r hd ka kr kl ?_ ?_ ?_ ?_ ?_ ?_
    · first | exact .inl hk | exact .inr (by simp_all [noAskB])
    · first | exact .inl hk | exact .inr (by simp_all)
    · first | exact .inl (by omega) | exact .inr (by simp_all)
    · first | exact .inl (by omega) | exact .inr (by simp_all)
    · first | exact .inl (by omega) | exact .inr (by simp_all)
    · first | exact .inl ⟨by omega, (km rfl).1, (km rfl).2⟩ | exact .inr ⟨by omega, by simp_all⟩
theorem k17_10 (r : RowV) (hp : r.smallP) (hd : HeadF r) (hk : r.kind = 10) (e : Env) (σ : AHeap) (g0 : hget σ 0 = some r.cells) (e1 : e 1 = .ptr 0 0) : sC TM 0 b17_34 (unw TM 0 (RetQ [.t 2] (MyQ r)) .fin) e σ := by
  have g0' := g0
  simp only [RowV.cells, hk] at g0'
  have hrl : r.rep.l.length ≤ 1000000000000000 := by
    have := hp.rep
    simp only [RepV.small, Bool.and_eq_true, decide_eq_true_eq] at this; omega
  simp only [TM_app, Z17, x17_34, base1, baseE, ↓reduceIte, Nat.reduceAdd, Nat.reduceSub, Nat.reduceMul, Nat.reduceEqDiff, Nat.reduceLeDiff, Nat.reduceLT, Int.reduceLT, Int.reduceLE, Int.reduceEq, Int.reduceNe, Int.reduceToNat, Int.reduceAdd, Int.reduceSub, reduceCtorEq, Nat.reduceBEq, Nat.reduceBNe, e1, g0']
  repeat' first
    | exact myNo (σ := [])
    | (refine guardK_case (fun h => ?_) (fun h => ?_) <;> simp only [TM_app, Z17, x17_34, base1, baseE, ↓reduceIte, Nat.reduceAdd, Nat.reduceSub, Nat.reduceMul, Nat.reduceEqDiff, Nat.reduceLeDiff, Nat.reduceLT, Int.reduceLT, Int.reduceLE, Int.reduceEq, Int.reduceNe, Int.reduceToNat, Int.reduceAdd, Int.reduceSub, reduceCtorEq, Nat.reduceBEq, Nat.reduceBNe, e1, g0', h])
    | (refine condK_split (fun h => ?_) (fun h => ?_) <;> simp only [TM_app, Z17, x17_34, base1, baseE, ↓reduceIte, Nat.reduceAdd, Nat.reduceSub, Nat.reduceMul, Nat.reduceEqDiff, Nat.reduceLeDiff, Nat.reduceLT, Int.reduceLT, Int.reduceLE, Int.reduceEq, Int.reduceNe, Int.reduceToNat, Int.reduceAdd, Int.reduceSub, reduceCtorEq, Nat.reduceBEq, Nat.reduceBNe, e1, g0', h])
    | (refine ⟨r.rep, rfl, hrl, fun t ht => ?_⟩; simp only [TM_app, Z17, x17_34, base1, baseE, ↓reduceIte, Nat.reduceAdd, Nat.reduceSub, Nat.reduceMul, Nat.reduceEqDiff, Nat.reduceLeDiff, Nat.reduceLT, Int.reduceLT, Int.reduceLE, Int.reduceEq, Int.reduceNe, Int.reduceToNat, Int.reduceAdd, Int.reduceSub, reduceCtorEq, Nat.reduceBEq, Nat.reduceBNe, e1, g0'])
  all_goals
    refine rest17 r hp false (fun ka kr kl km => ?_) _ _ g0 e1 rfl
    clear g0 g0' e1 hrl
    refine mayMade r hd ka kr kl ?_ ?_ ?_ ?_ ?_ ?_
    · first | exact .inl hk | exact .inr (by simp_all [noAskB])
    · first | exact .inl hk | exact .inr (by simp_all)
    · first | exact .inl (by omega) | exact .inr (by simp_all)
    · first | exact .inl (by omega) | exact .inr (by simp_all)
    · first | exact .inl (by omega) | exact .inr (by simp_all)
    · first | exact .inl ⟨by omega, (km rfl).1, (km rfl).2⟩ | exact .inr ⟨by omega, by simp_all⟩
theorem k17_11 (r : RowV) (hp : r.smallP) (hd : HeadF r) (hk : r.kind = 11) (e : Env) (σ : AHeap) (g0 : hget σ 0 = some r.cells) (e1 : e 1 = .ptr 0 0) : sC TM 0 b17_34 (unw TM 0 (RetQ [.t 2] (MyQ r)) .fin) e σ := by
  have g0' := g0
  simp only [RowV.cells, hk] at g0'
  have hrl : r.rep.l.length ≤ 1000000000000000 := by
    have := hp.rep
    simp only [RepV.small, Bool.and_eq_true, decide_eq_true_eq] at this; omega
  simp only [TM_app, Z17, x17_34, base1, baseE, ↓reduceIte, Nat.reduceAdd, Nat.reduceSub, Nat.reduceMul, Nat.reduceEqDiff, Nat.reduceLeDiff, Nat.reduceLT, Int.reduceLT, Int.reduceLE, Int.reduceEq, Int.reduceNe, Int.reduceToNat, Int.reduceAdd, Int.reduceSub, reduceCtorEq, Nat.reduceBEq, Nat.reduceBNe, e1, g0']
  repeat' first
    | exact myNo (σ := [])
    | (refine guardK_case (fun h => ?_) (fun h => ?_) <;> simp only [TM_app, Z17, x17_34, base1, baseE, ↓reduceIte, Nat.reduceAdd, Nat.reduceSub, Nat.reduceMul, Nat.reduceEqDiff, Nat.reduceLeDiff, Nat.reduceLT, Int.reduceLT, Int.reduceLE, Int.reduceEq, Int.reduceNe, Int.reduceToNat, Int.reduceAdd, Int.reduceSub, reduceCtorEq, Nat.reduceBEq, Nat.reduceBNe, e1, g0', h])
    | (refine condK_split (fun h => ?_) (fun h => ?_) <;> simp only [TM_app, Z17, x17_34, base1, baseE, ↓reduceIte, Nat.reduceAdd, Nat.reduceSub, Nat.reduceMul, Nat.reduceEqDiff, Nat.reduceLeDiff, Nat.reduceLT, Int.reduceLT, Int.reduceLE, Int.reduceEq, Int.reduceNe, Int.reduceToNat, Int.reduceAdd, Int.reduceSub, reduceCtorEq, Nat.reduceBEq, Nat.reduceBNe, e1, g0', h])
    | (refine ⟨r.rep, rfl, hrl, fun t ht => ?_⟩; simp only [TM_app, Z17, x17_34, base1, baseE, ↓reduceIte, Nat.reduceAdd, Nat.reduceSub, Nat.reduceMul, Nat.reduceEqDiff, Nat.reduceLeDiff, Nat.reduceLT, Int.reduceLT, Int.reduceLE, Int.reduceEq, Int.reduceNe, Int.reduceToNat, Int.reduceAdd, Int.reduceSub, reduceCtorEq, Nat.reduceBEq, Nat.reduceBNe, e1, g0'])
  all_goals
    refine rest17 r hp false (fun ka kr kl km => ?_) _ _ g0 e1 rfl
    clear g0 g0' e1 hrl
    refine mayMade r hd ka kr kl ?_ ?_ ?_ ?_ ?_ ?_
    · first | exact .inl hk | exact .inr (by simp_all [noAskB])
    · first | exact .inl hk | exact .inr (by simp_all)
    · first | exact .inl (by omega) | exact .inr (by simp_all)
    · first | exact .inl (by omega) | exact .inr (by simp_all)
    · first | exact .inl (by omega) | exact .inr (by simp_all)
    · first | exact .inl ⟨by omega, (km rfl).1, (km rfl).2⟩ | exact .inr ⟨by omega, by simp_all⟩
theorem k17_12 (r : RowV) (hp : r.smallP) (hd : HeadF r) (hk : r.kind = 12) (e : Env) (σ : AHeap) (g0 : hget σ 0 = some r.cells) (e1 : e 1 = .ptr 0 0) : sC TM 0 b17_34 (unw TM 0 (RetQ [.t 2] (MyQ r)) .fin) e σ := by
  have g0' := g0
  simp only [RowV.cells, hk] at g0'
  have hrl : r.rep.l.length ≤ 1000000000000000 := by
    have := hp.rep
    simp only [RepV.small, Bool.and_eq_true, decide_eq_true_eq] at this; omega
  simp only [TM_app, Z17, x17_34, base1, baseE, ↓reduceIte, Nat.reduceAdd, Nat.reduceSub, Nat.reduceMul, Nat.reduceEqDiff, Nat.reduceLeDiff, Nat.reduceLT, Int.reduceLT, Int.reduceLE, Int.reduceEq, Int.reduceNe, Int.reduceToNat, Int.reduceAdd, Int.reduceSub, reduceCtorEq, Nat.reduceBEq, Nat.reduceBNe, e1, g0']
  repeat' first
    | exact myNo (σ := [])
    | (refine guardK_case (fun h => ?_) (fun h => ?_) <;> simp only [TM_app, Z17, x17_34, base1, baseE, ↓reduceIte, Nat.reduceAdd, Nat.reduceSub, Nat.reduceMul, Nat.reduceEqDiff, Nat.reduceLeDiff, Nat.reduceLT, Int.reduceLT, Int.reduceLE, Int.reduceEq, Int.reduceNe, Int.reduceToNat, Int.reduceAdd, Int.reduceSub, reduceCtorEq, Nat.reduceBEq, Nat.reduceBNe, e1, g0', h])
    | (refine condK_split (fun h => ?_) (fun h => ?_) <;> simp only [TM_app, Z17, x17_34, base1, baseE, ↓reduceIte, Nat.reduceAdd, Nat.reduceSub, Nat.reduceMul, Nat.reduceEqDiff, Nat.reduceLeDiff, Nat.reduceLT, Int.reduceLT, Int.reduceLE, Int.reduceEq, Int.reduceNe, Int.reduceToNat, Int.reduceAdd, Int.reduceSub, reduceCtorEq, Nat.reduceBEq, Nat.reduceBNe, e1, g0', h])
    | (refine ⟨r.rep, rfl, hrl, fun t ht => ?_⟩; simp only [TM_app, Z17, x17_34, base1, baseE, ↓reduceIte, Nat.reduceAdd, Nat.reduceSub, Nat.reduceMul, Nat.reduceEqDiff, Nat.reduceLeDiff, Nat.reduceLT, Int.reduceLT, Int.reduceLE, Int.reduceEq, Int.reduceNe, Int.reduceToNat, Int.reduceAdd, Int.reduceSub, reduceCtorEq, Nat.reduceBEq, Nat.reduceBNe, e1, g0'])
  all_goals
    refine rest17 r hp false (fun ka kr kl km => ?_) _ _ g0 e1 rfl
    clear g0 g0' e1 hrl
    refine mayMade r hd ka kr kl ?_ ?_ ?_ ?_ ?_ ?_
    · first | exact .inl hk | exact .inr (by simp_all [noAskB])
    · first | exact .inl hk | exact .inr (by simp_all)
    · first | exact .inl (by omega) | exact .inr (by simp_all)
    · first | exact .inl (by omega) | exact .inr (by simp_all)
    · first | exact .inl (by omega) | exact .inr (by simp_all)
    · first | exact .inl ⟨by omega, (km rfl).1, (km rfl).2⟩ | exact .inr ⟨by omega, by simp_all⟩
theorem may17 (r : RowV) (hp : r.smallP) : sF TM s17 [.agg r.cells] [] (MyQ r) := by
  simp only [RowV.cells, TM_app, Z17, x17_32, base1, baseE, ↓reduceIte, Nat.reduceAdd, Nat.reduceSub, Nat.reduceMul, Nat.reduceEqDiff, Nat.reduceLeDiff, Nat.reduceLT, Int.reduceLT, Int.reduceLE, Int.reduceEq, Int.reduceNe, Int.reduceToNat, Int.reduceAdd, Int.reduceSub, reduceCtorEq, Nat.reduceBEq, Nat.reduceBNe, partyD_eq]
  repeat' first
    | exact myNo (σ := [])
    | (refine guardK_case (fun h => ?_) (fun h => ?_) <;> simp only [TM_app, Z17, x17_32, base1, baseE, ↓reduceIte, Nat.reduceAdd, Nat.reduceSub, Nat.reduceMul, Nat.reduceEqDiff, Nat.reduceLeDiff, Nat.reduceLT, Int.reduceLT, Int.reduceLE, Int.reduceEq, Int.reduceNe, Int.reduceToNat, Int.reduceAdd, Int.reduceSub, reduceCtorEq, Nat.reduceBEq, Nat.reduceBNe, partyD_eq, h])
    | (refine condK_split (fun h => ?_) (fun h => ?_) <;> simp only [TM_app, Z17, x17_32, base1, baseE, ↓reduceIte, Nat.reduceAdd, Nat.reduceSub, Nat.reduceMul, Nat.reduceEqDiff, Nat.reduceLeDiff, Nat.reduceLT, Int.reduceLT, Int.reduceLE, Int.reduceEq, Int.reduceNe, Int.reduceToNat, Int.reduceAdd, Int.reduceSub, reduceCtorEq, Nat.reduceBEq, Nat.reduceBNe, partyD_eq, h])
  have hd : HeadF r := ⟨by assumption, by assumption, by assumption, by assumption, by assumption, by assumption, by assumption, by assumption, by assumption⟩
  rcases kinds hd.h1 hd.h2 with h | h | h | h | h | h | h | h | h | h | h | h
  · exact k17_1 r hp hd h _ _ rfl rfl
  · exact k17_2 r hp hd h _ _ rfl rfl
  · exact k17_3 r hp hd h _ _ rfl rfl
  · exact k17_4 r hp hd h _ _ rfl rfl
  · exact k17_5 r hp hd h _ _ rfl rfl
  · exact k17_6 r hp hd h _ _ rfl rfl
  · exact k17_7 r hp hd h _ _ rfl rfl
  · exact k17_8 r hp hd h _ _ rfl rfl
  · exact k17_9 r hp hd h _ _ rfl rfl
  · exact k17_10 r hp hd h _ _ rfl rfl
  · exact k17_11 r hp hd h _ _ rfl rfl
  · exact k17_12 r hp hd h _ _ rfl rfl
theorem lmay_ok (r : RowV) (hp : r.smallP) : Tri Try.prog 17 [.agg r.cells] [] fun x _ => x.pure = true ∧ ∃ b, x = .bool b ∧ (b = true → mayB (made r) = true) := Tri.of_s c17 TM_sound (may17 r hp)
def lmayD (args : List AV) (σ : AHeap) (K : AV → AHeap → Prop) : Prop := ∃ r : RowV, args = [.agg r.cells] ∧ r.smallP ∧ ∀ b, (b = true → mayB (made r) = true) → K (.bool b) σ
theorem lmayD_ok (args : List AV) (σ : AHeap) (K : AV → AHeap → Prop) (h : lmayD args σ K) : Tri Try.prog 17 args σ K := by
  obtain ⟨r, rfl, hp, h⟩ := h
  exact (Tri.pureD (by simp only [pureL, row_pure, Bool.and_self]) (lmay_ok r hp) σ).mono fun x σ' ⟨⟨b, h1, h2⟩, h3⟩ => by rw [h1, h3]; exact h b h2
end Go.Proofs.Ytndlgmciplckjaa.note
