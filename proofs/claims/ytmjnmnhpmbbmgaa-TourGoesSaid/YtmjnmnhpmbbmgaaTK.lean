/- A store of many spans: spans are held, records are put. No condition. -/
import Derived.Test.YtmjnmnhpmbbmgaaTJ
set_option linter.unusedVariables false
set_option linter.unusedSimpArgs false
namespace Go.Proofs.Ytmjnmnhpmbbmgaa.tour
open Go.ChangeShapes Go.WideShapes Go.ChangeAt Go.RowKit Go.Gz Go.Gz.H
set_option maxHeartbeats 4000000
set_option maxRecDepth 10000
def hasH (h : HD) (key : Bs) : Prop := hsS h.f h.t key = true
def Disj (hs : List HD) : Prop := ∀ (i j : Nat) (h k : HD) (key : Bs), hs[i]? = some h → hs[j]? = some k → hasH h key → hasH k key → i = j
def Cover (hs : List HD) : Prop := ∀ key, ∃ (i : Nat) (h : HD), hs[i]? = some h ∧ hasH h key
def hoI (B S n : Nat) (a b : Bs) (texts : AV) (cuts : List Bs) (m : Nat) (e : Env) (σ : AHeap) : Prop :=
  ∃ (i : Nat) (frm : Bs) (Lv : AV) (hs : List HD), i ≤ cuts.length + 1 ∧ m = cuts.length + 1 - i ∧ StoreAt σ S Lv hs ∧ hs.length = i ∧ (∀ h ∈ hs, h.rows = [] ∧ h.o = none) ∧ Disj hs ∧
    (i ≤ cuts.length → (∀ h ∈ hs, h.t ≠ [] ∧ ¬ frm < h.t ∧ h.f < h.t) ∧ ∀ key, key < frm → ∃ (j : Nat) (h : HD), hs[j]? = some h ∧ hasH h key) ∧ (i = cuts.length + 1 → Cover hs) ∧
    hget σ B = some [.str a, .str b] ∧ ¬ Own S Lv hs B ∧ e 0 = texts ∧ e 1 = .imm (cuts.map fun s => [.str s]) false false ∧ e 3 = .int .i64 (n : Int) ∧ e 6 = .ptr B 0 ∧ e 9 = .ptr S 0 ∧ e 10 = .str frm ∧ e 11 = .int .i64 (i : Int)
theorem go_hold {n0 B S n : Nat} {a b : Bs} {texts : AV} {cuts : List Bs} {K : AV → AHeap → Prop} {e : Env} {σ : AHeap} {Lv : AV}
    (hc8 : cuts.length ≤ 8) (hS : StoreAt σ S Lv []) (hB : hget σ B = some [.str a, .str b]) (hBo : ¬ Own S Lv [] B)
    (e0 : e 0 = texts) (e1 : e 1 = .imm (cuts.map fun s => [.str s]) false false) (e3 : e 3 = .int .i64 (n : Int)) (e6 : e 6 = .ptr B 0) (e9 : e 9 = .ptr S 0) (e10 : e 10 = .str []) (e11 : e 11 = .int .i64 0)
    (hY : ∀ σ, K (.bool true) σ)
    (hK : ∀ (e' : Env) σ' Lv' hs, StoreAt σ' S Lv' hs → (∀ h ∈ hs, h.rows = [] ∧ h.o = none) → Disj hs → Cover hs → hs.length ≤ 9 → hget σ' B = some [.str a, .str b] → ¬ Own S Lv' hs B → e' 0 = texts → e' 3 = .int .i64 (n : Int) → e' 6 = .ptr B 0 → e' 9 = .ptr S 0 → unw U10 n0 (RetQ [.t 8] K) (.block 0 (.seq b10_135 .fin)) (.exit 0) e' σ') :
    sC U10 n0 b10_36 (unw U10 n0 (RetQ [.t 8] K) (.block 0 (.seq b10_135 .fin))) e σ := by
  refine sC_inv (a := b10_35) (hoI B S n a b texts cuts) (cuts.length + 1) _ _ (.refl _ _ _) ⟨0, [], Lv, [], by omega, by omega, hS, rfl, fun h hh => by simp at hh, fun i j h k key hh => by simp at hh, fun _ => ⟨fun h hh => by simp at hh, fun key hk => absurd hk (nil_le key)⟩, fun h => by omega, hB, hBo, e0, e1, e3, e6, e9, e10, e11⟩ ?_
  clear e0 e1 e3 e6 e9 e10 e11 hS hB hBo
  rintro m e σ ⟨i, frm, Lv, hs, hi, hm, hS, hlen, hemp, hdis, hrun, hfin, hB, hBo, e0, e1, e3, e6, e9, e10, e11⟩
  have lc : (cuts.map fun s => [AV.str s]).length = cuts.length := by simp
  have hwr : IntKind.wrap .i64 ((i : Int) + 1) = ((i + 1 : Nat) : Int) := by rw [Gz.wrap64 (by omega)]; omega
  by_cases hle : (i : Int) ≤ (cuts.length : Int)
  · have hile : i ≤ cuts.length := by omega
    obtain ⟨hr1, hr2⟩ := hrun hile
    -- the span that is held next
    have step : ∀ (to : Bs), (to = [] ∨ frm < to) → (to = [] → i = cuts.length) → (to ≠ [] → i < cuts.length) → ∀ e' : Env, e' 0 = texts → e' 1 = .imm (cuts.map fun s => [.str s]) false false → e' 3 = .int .i64 (n : Int) → e' 6 = .ptr B 0 → e' 9 = .ptr S 0 → e' 10 = .str frm → e' 11 = .int .i64 (i : Int) → e' 12 = .str to →
        sC U10 n0 b10_29 (unw U10 n0 (loopR U10 n0 (RetQ [.t 8] K) (.block 0 (.seq b10_135 .fin)) (hoI B S n a b texts cuts) m) (.block 1 (.seq b10_33 .fin))) e' σ := by
      intro to h1 h2 h3 e' q0 q1 q3 q6 q9 q10 q11 q12
      simp only [U10_app, Z10, x10_29, base1, ↓reduceIte, Nat.reduceAdd, Nat.reduceSub, Nat.reduceMul, Nat.reduceEqDiff, Nat.reduceLeDiff, Nat.reduceLT, Int.reduceLT, Int.reduceLE, Int.reduceEq, Int.reduceNe, Int.reduceToNat, Int.reduceAdd, Int.reduceSub, reduceCtorEq, Nat.reduceBEq, Nat.reduceBNe, loopR_exit, loopR_ret, q0, q1, q3, q6, q9, q10, q11, q12]
      refine ⟨S, Lv, hs, frm, to, rfl, hS, by omega, ?_, fun h hh => ?_, fun σ' Lv' hS' fr => ?_⟩
      · unfold emS
        rcases h1 with rfl | h1
        · rfl
        · rw [less_iff.2 h1]; simp
      · obtain ⟨g1, g2, g3⟩ := hr1 h hh
        have hlt : h.f < frm := lt_le g3 g2
        refine ⟨fun e => lt_irr frm (e ▸ hlt), ?_, less_iff.2 hlt⟩
        unfold mtS
        simp [g1, less_no.2 g2]
      · simp only [U10_app, Z10, x10_29, base1, ↓reduceIte, Nat.reduceAdd, Nat.reduceSub, Nat.reduceMul, Nat.reduceEqDiff, Nat.reduceLeDiff, Nat.reduceLT, Int.reduceLT, Int.reduceLE, Int.reduceEq, Int.reduceNe, Int.reduceToNat, Int.reduceAdd, Int.reduceSub, reduceCtorEq, Nat.reduceBEq, Nat.reduceBNe, loopR_exit, loopR_ret, q0, q1, q3, q6, q9, q10, q11, q12, hwr]
        rw [loopR_normal]
        have hBS : B ≠ S := fun e => hBo (.inl e)
        obtain ⟨hB', hBL⟩ := fr _ _ hB hBS
        have get : ∀ {j : Nat} {x : HD}, (hs ++ [newH frm to])[j]? = some x → hs[j]? = some x ∨ (j = hs.length ∧ x = newH frm to) := by
          intro j x hx
          rw [List.getElem?_append] at hx
          split at hx
          · exact .inl hx
          · have hj := List.getElem?_eq_some_iff.1 hx
            have : j - hs.length = 0 := by have := hj.1; simp at this; omega
            rw [this] at hx
            simp at hx
            exact .inr ⟨by omega, hx.symm⟩
        have new_no : ∀ h ∈ hs, ∀ key, hasH h key → ¬ hasH (newH frm to) key := fun h hh key a1 a2 => by
          obtain ⟨g1, g2, g3⟩ := hr1 h hh
          obtain ⟨_, b2⟩ := hs_iff.1 a1
          obtain ⟨c1, _⟩ := hs_iff.1 a2
          exact c1 (lt_le (b2.resolve_left g1) g2)
        refine ⟨cuts.length + 1 - (i + 1), _, _, by omega, .refl _ _ _, i + 1, to, Lv', hs ++ [newH frm to], by omega, rfl, hS', by simp [hlen], fun h hh => ?_, fun x y h k key hx hy a1 a2 => ?_, fun hrr => ⟨fun h hh => ?_, fun key hkey => ?_⟩, fun hee => ?_, hB', ?_, q0, q1, q3, q6, q9, rfl, rfl⟩
        · rcases List.mem_append.1 hh with hh | hh
          · exact hemp h hh
          · simp at hh; subst hh; exact ⟨rfl, rfl⟩
        · rcases get hx with hx | ⟨hx, rfl⟩ <;> rcases get hy with hy | ⟨hy, rfl⟩
          · exact hdis x y h k key hx hy a1 a2
          · exact absurd a2 (new_no h (List.mem_of_getElem? hx) key a1)
          · exact absurd a1 (new_no k (List.mem_of_getElem? hy) key a2)
          · omega
        · have hto : to ≠ [] := fun e => by have := h2 e; omega
          have hft : frm < to := h1.resolve_left hto
          rcases List.mem_append.1 hh with hh | hh
          · obtain ⟨g1, g2, g3⟩ := hr1 h hh
            exact ⟨g1, List.lt_asymm (le_lt g2 hft), g3⟩
          · simp at hh; subst hh
            exact ⟨hto, lt_irr _, hft⟩
        · by_cases hkf : key < frm
          · obtain ⟨j, h, hj, hh⟩ := hr2 key hkf
            exact ⟨j, h, by rw [List.getElem?_append_left (List.getElem?_eq_some_iff.1 hj).1]; exact hj, hh⟩
          · exact ⟨hs.length, newH frm to, by simp, hs_iff.2 ⟨hkf, .inr hkey⟩⟩
        · intro key
          have hto : to = [] := Classical.byContradiction fun e => by have := h3 e; omega
          by_cases hkf : key < frm
          · obtain ⟨j, h, hj, hh⟩ := hr2 key hkf
            exact ⟨j, h, by rw [List.getElem?_append_left (List.getElem?_eq_some_iff.1 hj).1]; exact hj, hh⟩
          · exact ⟨hs.length, newH frm to, by simp, hs_iff.2 ⟨hkf, .inl hto⟩⟩
        · rintro (e | e | ⟨k, hk, e⟩)
          · exact hBS e
          · exact hBL e
          · rcases List.mem_append.1 hk with hk | hk
            · exact hBo (.inr (.inr ⟨k, hk, e⟩))
            · simp at hk; subst hk
              rcases e with e | e <;> cases e
    by_cases hlt' : (i : Int) < (cuts.length : Int)
    · have hlt : i < cuts.length := by omega
      have hge0 : (0 : Int) ≤ (i : Int) := by omega
      obtain ⟨to, hto⟩ : ∃ to, cuts[i]? = some to := ⟨_, List.getElem?_eq_getElem hlt⟩
      have hrow : (cuts.map fun s => [AV.str s])[i]? = some [.str to] := by rw [List.getElem?_map, hto]; rfl
      by_cases hbig : (300 : Int) < (to.length : Int)
      · simp only [U10_app, awakeD_eq, Z10, base1, ↓reduceIte, Nat.reduceAdd, Nat.reduceSub, Nat.reduceMul, Nat.reduceEqDiff, Nat.reduceLeDiff, Nat.reduceLT, Int.reduceLT, Int.reduceLE, Int.reduceEq, Int.reduceNe, Int.reduceToNat, Int.reduceAdd, Int.reduceSub, reduceCtorEq, Nat.reduceBEq, Nat.reduceBNe, loopR_exit, loopR_ret, lenOf_imm, lc, e0, e1, e3, e6, e9, e10, e11, hle, hlt', hlt, hge0, Int.toNat_natCast, hrow, hbig]
        exact hY _
      · cases hcmp : (lessBytes to frm || to == frm) with
        | true =>
          simp only [U10_app, awakeD_eq, Z10, base1, ↓reduceIte, Nat.reduceAdd, Nat.reduceSub, Nat.reduceMul, Nat.reduceEqDiff, Nat.reduceLeDiff, Nat.reduceLT, Int.reduceLT, Int.reduceLE, Int.reduceEq, Int.reduceNe, Int.reduceToNat, Int.reduceAdd, Int.reduceSub, reduceCtorEq, Nat.reduceBEq, Nat.reduceBNe, loopR_exit, loopR_ret, lenOf_imm, lc, e0, e1, e3, e6, e9, e10, e11, hle, hlt', hlt, hge0, Int.toNat_natCast, hrow, hbig, hcmp]
          exact hY _
        | false =>
          have hft : frm < to := by
            rw [Bool.or_eq_false_iff, less_no] at hcmp
            exact ne_lt hcmp.1 (by simpa using hcmp.2)
          simp only [U10_app, awakeD_eq, Z10, base1, ↓reduceIte, Nat.reduceAdd, Nat.reduceSub, Nat.reduceMul, Nat.reduceEqDiff, Nat.reduceLeDiff, Nat.reduceLT, Int.reduceLT, Int.reduceLE, Int.reduceEq, Int.reduceNe, Int.reduceToNat, Int.reduceAdd, Int.reduceSub, reduceCtorEq, Nat.reduceBEq, Nat.reduceBNe, loopR_exit, loopR_ret, lenOf_imm, lc, e0, e1, e3, e6, e9, e10, e11, hle, hlt', hlt, hge0, Int.toNat_natCast, hrow, hbig, hcmp]
          exact step to (.inr hft) (fun e => absurd hft (e ▸ nil_le frm)) (fun _ => hlt) _ e0 e1 e3 e6 e9 e10 e11 rfl
    · simp only [U10_app, awakeD_eq, Z10, base1, ↓reduceIte, Nat.reduceAdd, Nat.reduceSub, Nat.reduceMul, Nat.reduceEqDiff, Nat.reduceLeDiff, Nat.reduceLT, Int.reduceLT, Int.reduceLE, Int.reduceEq, Int.reduceNe, Int.reduceToNat, Int.reduceAdd, Int.reduceSub, reduceCtorEq, Nat.reduceBEq, Nat.reduceBNe, loopR_exit, loopR_ret, lenOf_imm, lc, e0, e1, e3, e6, e9, e10, e11, hle, hlt']
      exact step [] (.inl rfl) (fun _ => by omega) (fun h => absurd rfl h) _ e0 e1 e3 e6 e9 e10 e11 rfl
  · have hie : i = cuts.length + 1 := by omega
    simp only [U10_app, awakeD_eq, Z10, base1, ↓reduceIte, Nat.reduceAdd, Nat.reduceSub, Nat.reduceMul, Nat.reduceEqDiff, Nat.reduceLeDiff, Nat.reduceLT, Int.reduceLT, Int.reduceLE, Int.reduceEq, Int.reduceNe, Int.reduceToNat, Int.reduceAdd, Int.reduceSub, reduceCtorEq, Nat.reduceBEq, Nat.reduceBNe, loopR_exit, loopR_ret, lenOf_imm, lc, e0, e1, e3, e6, e9, e10, e11, hle]
    exact hK _ _ Lv hs hS hemp hdis (hfin hie) (by omega) hB hBo e0 e3 e6 e9
end Go.Proofs.Ytmjnmnhpmbbmgaa.tour

/- A store of many spans, and all in one map: records are put into both. No condition. -/
set_option linter.unusedVariables false
set_option linter.unusedSimpArgs false
namespace Go.Proofs.Ytmjnmnhpmbbmgaa.tour
open Go.ChangeShapes Go.WideShapes Go.ChangeAt Go.RowKit Go.Gz Go.Gz.H
set_option maxHeartbeats 4000000
set_option maxRecDepth 10000
theorem own_live {σ : AHeap} {S : Nat} {Lv : AV} {hs : List HD} (h : StoreAt σ S Lv hs) {j : Nat} (hj : Own S Lv hs j) : ∃ c, hget σ j = some c := by
  rcases hj with rfl | hj | ⟨k, hk, hj⟩
  · exact ⟨_, h.st⟩
  · exact grow_live h.li hj
  · rcases hj with hj | hj
    · exact grow_live (h.mv k hk) hj
    · exact grow_live (h.ov k hk) hj
def tgI (B S A n : Nat) (a b : Bs) (texts : List Bs) (m : Nat) (e : Env) (σ : AHeap) : Prop :=
  ∃ (k : Nat) (Lv Mv : AV) (hs : List HD) (all : List Rw), k ≤ texts.length ∧ m = texts.length - k ∧ StoreAt σ S Lv hs ∧ Disj hs ∧ Cover hs ∧ hs.length ≤ 9 ∧ Srt all ∧ all.length ≤ k ∧ (∀ h ∈ hs, h.rows = all.filter (pS h.f h.t) ∧ nxtO h.o (k + 1) = true) ∧
    MapAt σ A 0 [Mv] Mv all ∧ ¬ Own S Lv hs A ∧ (∀ d, LvD Mv = some d → ¬ Own S Lv hs d ∧ d ≠ A ∧ d ≠ B) ∧ hget σ B = some [.str a, .str b] ∧ ¬ Own S Lv hs B ∧
    e 0 = .imm (texts.map fun s => [.str s]) false false ∧ e 3 = .int .i64 (n : Int) ∧ e 6 = .ptr B 0 ∧ e 9 = .ptr S 0 ∧ e 13 = .ptr A 0 ∧ e 14 = .int .i64 (k : Int)
theorem go_texts {n0 B S A n : Nat} {a b : Bs} {texts : List Bs} {R : MExit → Env → AHeap → Prop} {kk : Cont} {e : Env} {σ : AHeap} {Lv : AV} {hs : List HD}
    (h60 : texts.length ≤ 60) (hsz : ∀ s ∈ texts, s.length ≤ 140737488351232) (hAB : A ≠ B) (hS : StoreAt σ S Lv hs) (hemp : ∀ h ∈ hs, h.rows = [] ∧ h.o = none) (hd : Disj hs) (hc : Cover hs) (h9 : hs.length ≤ 9) (hA : hget σ A = some [.nilslice]) (hAo : ¬ Own S Lv hs A) (hB : hget σ B = some [.str a, .str b]) (hBo : ¬ Own S Lv hs B)
    (e0 : e 0 = .imm (texts.map fun s => [.str s]) false false) (e3 : e 3 = .int .i64 (n : Int)) (e6 : e 6 = .ptr B 0) (e9 : e 9 = .ptr S 0) (e13 : e 13 = .ptr A 0) (e14 : e 14 = .int .i64 0)
    (hK : ∀ (e' : Env) σ' Lv' Mv' hs' all, StoreAt σ' S Lv' hs' → Cut all hs' → MapAt σ' A 0 [Mv'] Mv' all → hget σ' B = some [.str a, .str b] → e' 3 = .int .i64 (n : Int) → e' 6 = .ptr B 0 → e' 9 = .ptr S 0 → e' 13 = .ptr A 0 → unw U10 n0 R kk (.exit 2) e' σ') :
    sC U10 n0 b10_57 (unw U10 n0 R kk) e σ := by
  refine sC_inv (a := b10_56) (tgI B S A n a b texts) texts.length _ _ (.refl _ _ _) ⟨0, Lv, .nilslice, hs, [], Nat.zero_le _, rfl, hS, hd, hc, h9, List.Pairwise.nil, Nat.le_refl _, fun h hh => ⟨by rw [(hemp h hh).1]; rfl, by rw [(hemp h hh).2]; rfl⟩, ⟨hA, rfl, .inl ⟨rfl, rfl⟩, by simp⟩, hAo, (fun d hd => by cases hd), hB, hBo, e0, e3, e6, e9, e13, e14⟩ ?_
  clear e0 e3 e6 e9 e13 e14 hS hemp hd hc h9 hA hAo hB hBo
  rintro m e σ ⟨k, Lv, Mv, hs, all, hk, hm, hS, hd, hc, h9, hsrt, hl, hrow, hM, hAo, hMo, hB, hBo, e0, e3, e6, e9, e13, e14⟩
  have lt : (texts.map fun s => [AV.str s]).length = texts.length := by simp
  have hwr : IntKind.wrap .i64 ((k : Int) + 1) = ((k + 1 : Nat) : Int) := by rw [Gz.wrap64 (by omega)]; omega
  by_cases hlt' : (k : Int) < (texts.length : Int)
  · have hlt : k < texts.length := by omega
    have hge0 : (0 : Int) ≤ (k : Int) := by omega
    obtain ⟨x, hx⟩ : ∃ x, texts[k]? = some x := ⟨_, List.getElem?_eq_getElem hlt⟩
    have hxs := hsz x (List.mem_of_getElem? hx)
    have hrx : (texts.map fun s => [AV.str s])[k]? = some [.str x] := by rw [List.getElem?_map, hx]; rfl
    have nxt : ∀ h ∈ hs, nxtO h.o (k + 1 + 1) = true := fun h hh => by
      have := (hrow h hh).2
      cases hoo : h.o with
      | none => rfl
      | some p =>
        rw [hoo] at this
        have := of_decide_eq_true this
        exact decide_eq_true (by omega)
    have skip : ∀ e' : Env, e' 0 = .imm (texts.map fun s => [.str s]) false false → e' 3 = .int .i64 (n : Int) → e' 6 = .ptr B 0 → e' 9 = .ptr S 0 → e' 13 = .ptr A 0 → e' 14 = .int .i64 ((k + 1 : Nat) : Int) → loopR U10 n0 R kk (tgI B S A n a b texts) m .normal e' σ := by
      intro e' q0 q3 q6 q9 q13 q14
      rw [loopR_normal]
      exact ⟨texts.length - (k + 1), _, _, by omega, .refl _ _ _, k + 1, Lv, Mv, hs, all, hlt, rfl, hS, hd, hc, h9, hsrt, by omega, fun h hh => ⟨(hrow h hh).1, nxt h hh⟩, hM, hAo, hMo, hB, hBo, q0, q3, q6, q9, q13, q14⟩
    simp only [U10_app, Z10, x10_29, base1, ↓reduceIte, Nat.reduceAdd, Nat.reduceSub, Nat.reduceMul, Nat.reduceEqDiff, Nat.reduceLeDiff, Nat.reduceLT, Int.reduceLT, Int.reduceLE, Int.reduceEq, Int.reduceNe, Int.reduceToNat, Int.reduceAdd, Int.reduceSub, reduceCtorEq, Nat.reduceBEq, Nat.reduceBNe, loopR_exit, loopR_ret, lenOf_imm, lt, e0, e3, e6, e9, e13, e14, hlt', hlt, hge0, Int.toNat_natCast, hrx]
    refine ⟨rfl, ?_⟩
    simp only [U10_app, Z10, x10_29, base1, ↓reduceIte, Nat.reduceAdd, Nat.reduceSub, Nat.reduceMul, Nat.reduceEqDiff, Nat.reduceLeDiff, Nat.reduceLT, Int.reduceLT, Int.reduceLE, Int.reduceEq, Int.reduceNe, Int.reduceToNat, Int.reduceAdd, Int.reduceSub, reduceCtorEq, Nat.reduceBEq, Nat.reduceBNe, loopR_exit, loopR_ret, lenOf_imm, lt, e0, e3, e6, e9, e13, e14, hlt', hlt, hge0, Int.toNat_natCast, hrx]
    refine ⟨x, rfl, hxs, ?_⟩
    by_cases hz : (makeS x).2 = 0
    · by_cases hbig : (60 : Int) < (x.length : Int)
      · simp only [U10_app, Z10, x10_29, base1, ↓reduceIte, Nat.reduceAdd, Nat.reduceSub, Nat.reduceMul, Nat.reduceEqDiff, Nat.reduceLeDiff, Nat.reduceLT, Int.reduceLT, Int.reduceLE, Int.reduceEq, Int.reduceNe, Int.reduceToNat, Int.reduceAdd, Int.reduceSub, reduceCtorEq, Nat.reduceBEq, Nat.reduceBNe, loopR_exit, loopR_ret, lenOf_imm, lt, e0, e3, e6, e9, e13, e14, hlt', hlt, hge0, Int.toNat_natCast, hrx, hz, hbig, hwr]
        exact skip _ e0 e3 e6 e9 e13 rfl
      · simp only [U10_app, Z10, x10_29, base1, ↓reduceIte, Nat.reduceAdd, Nat.reduceSub, Nat.reduceMul, Nat.reduceEqDiff, Nat.reduceLeDiff, Nat.reduceLT, Int.reduceLT, Int.reduceLE, Int.reduceEq, Int.reduceNe, Int.reduceToNat, Int.reduceAdd, Int.reduceSub, reduceCtorEq, Nat.reduceBEq, Nat.reduceBNe, loopR_exit, loopR_ret, lenOf_imm, lt, e0, e3, e6, e9, e13, e14, hlt', hlt, hge0, Int.toNat_natCast, hrx, hz, hbig, hwr]
        refine .inl ⟨S, k + 1, Lv, hs, x, rfl, hS, fun h hh => ⟨(hrow h hh).2, ?_⟩, hxs, fun r σ2 hs2 hS2 hP fr => ?_⟩
        · have := List.length_filter_le (pS h.f h.t) all
          rw [(hrow h hh).1]; omega
        obtain ⟨j0, y0, hj0, hh0⟩ := hc (makeS x).1
        have hpos := last_pos hj0 hh0 (List.getElem?_eq_some_iff.1 hj0).1
        rcases hP with ⟨hbad, _⟩ | ⟨_, i, h, Mh, Oh, hi, hh, rfl⟩
        · rcases hbad with hbad | hbad
          · exact absurd hz hbad
          · omega
        obtain ⟨h', hh', hhas⟩ := last_spec hi
        rw [hh] at hh'; cases hh'
        have hA2 := fr _ _ hM.1 hAo
        have hB2 := fr _ _ hB hBo
        have hM2 : MapAt σ2 A 0 [Mv] Mv all := ⟨hA2.1, rfl, grow_frame hM.2.2.1 fun j c hj hdd => (fr j c hj (hMo j hdd).1).1, hM.2.2.2⟩
        simp only [U10_app, Z10, x10_29, base1, ↓reduceIte, Nat.reduceAdd, Nat.reduceSub, Nat.reduceMul, Nat.reduceEqDiff, Nat.reduceLeDiff, Nat.reduceLT, Int.reduceLT, Int.reduceLE, Int.reduceEq, Int.reduceNe, Int.reduceToNat, Int.reduceAdd, Int.reduceSub, reduceCtorEq, Nat.reduceBEq, Nat.reduceBNe, loopR_exit, loopR_ret, lenOf_imm, lt, e0, e3, e6, e9, e13, e14, hlt', hlt, hge0, Int.toNat_natCast, hrx, hwr]
        refine ⟨A, 0, _, Mv, all, (makeS x).1, (x, []), rfl, hM2, fun e => (hMo A e).2.1 rfl, fun σ3 Mv' f1 f2 f3 f4 => ?_⟩
        simp only [U10_app, Z10, x10_29, base1, ↓reduceIte, Nat.reduceAdd, Nat.reduceSub, Nat.reduceMul, Nat.reduceEqDiff, Nat.reduceLeDiff, Nat.reduceLT, Int.reduceLT, Int.reduceLE, Int.reduceEq, Int.reduceNe, Int.reduceToNat, Int.reduceAdd, Int.reduceSub, reduceCtorEq, Nat.reduceBEq, Nat.reduceBNe, loopR_exit, loopR_ret, lenOf_imm, lt, e0, e3, e6, e9, e13, e14, hwr]
        rw [loopR_normal]
        have hS3 := hS2.frame fun j c hj ho => f1 j c hj fun e => hA2.2 (e ▸ ho)
        have hil : i < hs.length := (List.getElem?_eq_some_iff.1 hh).1
        have get : ∀ {j : Nat} {y : HD}, (hs.set i (putH h Mh (putS h.rows (makeS x).1 (x, [])) Oh (some (k + 1, fdK h.rows (makeS x).1))))[j]? = some y → ∃ z, hs[j]? = some z ∧ z.f = y.f ∧ z.t = y.t := by
          intro j y hy
          by_cases hj : j = i
          · subst hj
            rw [List.getElem?_set_self hil] at hy
            cases hy; exact ⟨h, hh, rfl, rfl⟩
          · rw [List.getElem?_set_ne (Ne.symm hj)] at hy
            exact ⟨y, hy, rfl, rfl⟩
        refine ⟨texts.length - (k + 1), _, _, by omega, .refl _ _ _, k + 1, Lv, Mv', _, putS all (makeS x).1 (x, []), hlt, rfl, hS3, fun u v p q key hu hv a1 a2 => ?_, fun key => ?_, by simpa using h9, put_srt hsrt _ _, Nat.le_trans putS_len (by omega), fun y hy => ?_, ⟨f3, rfl, f4, Nat.le_trans putS_len (by omega)⟩, hA2.2, fun d hdd => ⟨fun ho => ?_, fun e => ?_, fun e => ?_⟩, f1 _ _ hB2.1 (Ne.symm hAB), hB2.2, e0, e3, e6, e9, e13, rfl⟩
        · obtain ⟨p', hp', pf, pt⟩ := get hu
          obtain ⟨q', hq', qf, qt⟩ := get hv
          exact hd u v p' q' key hp' hq' (by unfold hasH at a1 ⊢; rw [pf, pt]; exact a1) (by unfold hasH at a2 ⊢; rw [qf, qt]; exact a2)
        · obtain ⟨j, y, hj, hy⟩ := hc key
          by_cases hji : j = i
          · subst hji
            rw [hh] at hj; cases hj
            exact ⟨j, _, List.getElem?_set_self hil, hy⟩
          · exact ⟨j, y, by rw [List.getElem?_set_ne (Ne.symm hji)]; exact hj, hy⟩
        · obtain ⟨j, hj⟩ := List.mem_iff_getElem?.1 hy
          by_cases hji : j = i
          · subst hji
            rw [List.getElem?_set_self hil] at hj
            cases hj
            refine ⟨?_, decide_eq_true (by omega)⟩
            rw [put_in hsrt (by rw [hs_pS]; exact hhas), ← (hrow h (List.mem_of_getElem? hh)).1]
          · rw [List.getElem?_set_ne (Ne.symm hji)] at hj
            have hym := List.mem_of_getElem? hj
            refine ⟨?_, nxt y hym⟩
            rw [put_out hsrt]
            · exact (hrow y hym).1
            · rw [hs_pS]
              cases hyy : hsS y.f y.t (makeS x).1 with
              | false => rfl
              | true => exact absurd (hd j i y h (makeS x).1 hj hh hyy hhas) hji
        · obtain ⟨c, hc'⟩ := own_live hS2 ho
          exact f2 _ _ hc' hdd
        · subst e; exact f2 _ _ hA2.1 hdd
        · subst e; exact f2 _ _ hB2.1 hdd
    · simp only [U10_app, Z10, x10_29, base1, ↓reduceIte, Nat.reduceAdd, Nat.reduceSub, Nat.reduceMul, Nat.reduceEqDiff, Nat.reduceLeDiff, Nat.reduceLT, Int.reduceLT, Int.reduceLE, Int.reduceEq, Int.reduceNe, Int.reduceToNat, Int.reduceAdd, Int.reduceSub, reduceCtorEq, Nat.reduceBEq, Nat.reduceBNe, loopR_exit, loopR_ret, lenOf_imm, lt, e0, e3, e6, e9, e13, e14, hlt', hlt, hge0, Int.toNat_natCast, hrx, hz, hwr]
      exact skip _ e0 e3 e6 e9 e13 rfl
  · simp only [U10_app, Z10, x10_29, base1, ↓reduceIte, Nat.reduceAdd, Nat.reduceSub, Nat.reduceMul, Nat.reduceEqDiff, Nat.reduceLeDiff, Nat.reduceLT, Int.reduceLT, Int.reduceLE, Int.reduceEq, Int.reduceNe, Int.reduceToNat, Int.reduceAdd, Int.reduceSub, reduceCtorEq, Nat.reduceBEq, Nat.reduceBNe, loopR_exit, loopR_ret, lenOf_imm, lt, e0, e3, e6, e9, e13, e14, hlt']
    exact hK _ _ Lv Mv hs all hS ⟨hsrt, fun h hh => (hrow h hh).1, hc, by omega, h9⟩ hM hB e3 e6 e9 e13
end Go.Proofs.Ytmjnmnhpmbbmgaa.tour

/- Records in shards cut at some keys: the tour has just those of its span. No condition. -/
set_option linter.unusedVariables false
set_option linter.unusedSimpArgs false
namespace Go.Proofs.Ytmjnmnhpmbbmgaa.tour
open Go.ChangeShapes Go.WideShapes Go.ChangeAt Go.RowKit Go.Gz Go.Gz.H
set_option maxHeartbeats 4000000
set_option maxRecDepth 10000
theorem goes_s (texts cuts : List Bs) (a b : Bs) (n : Nat) (hn : 1 ≤ n) (hn16 : n ≤ 16) (hsz : ∀ s ∈ texts, s.length ≤ 140737488351232) (K : AV → AHeap → Prop) (hY : ∀ σ, K (.bool true) σ) :
    sF U10 s10 [.imm (texts.map fun s => [.str s]) false false, .imm (cuts.map fun s => [.str s]) false false, .agg [.str a, .str b], .int .i64 (n : Int)] [] K := by
  have lt : (texts.map fun s => [AV.str s]).length = texts.length := by simp
  have lc : (cuts.map fun s => [AV.str s]).length = cuts.length := by simp
  have x0 : [AV.str a, .str b][0]? = some (.str a) := rfl
  have x1 : [AV.str a, .str b][1]? = some (.str b) := rfl
  by_cases h60 : (60 : Int) < (texts.length : Int)
  · simp only [U10_app, awakeD_eq, Z10, x10_29, base1, ↓reduceIte, Nat.reduceAdd, Nat.reduceSub, Nat.reduceMul, Nat.reduceEqDiff, Nat.reduceLeDiff, Nat.reduceLT, Int.reduceLT, Int.reduceLE, Int.reduceEq, Int.reduceNe, Int.reduceToNat, Int.reduceAdd, Int.reduceSub, reduceCtorEq, Nat.reduceBEq, Nat.reduceBNe, lenOf_imm, lt, lc, x0, x1, h60]
    exact hY _
  by_cases h8 : (8 : Int) < (cuts.length : Int)
  · simp only [U10_app, awakeD_eq, Z10, x10_29, base1, ↓reduceIte, Nat.reduceAdd, Nat.reduceSub, Nat.reduceMul, Nat.reduceEqDiff, Nat.reduceLeDiff, Nat.reduceLT, Int.reduceLT, Int.reduceLE, Int.reduceEq, Int.reduceNe, Int.reduceToNat, Int.reduceAdd, Int.reduceSub, reduceCtorEq, Nat.reduceBEq, Nat.reduceBNe, lenOf_imm, lt, lc, x0, x1, h60, h8]
    exact hY _
  by_cases ha : (300 : Int) < (a.length : Int)
  · simp only [U10_app, awakeD_eq, Z10, x10_29, base1, ↓reduceIte, Nat.reduceAdd, Nat.reduceSub, Nat.reduceMul, Nat.reduceEqDiff, Nat.reduceLeDiff, Nat.reduceLT, Int.reduceLT, Int.reduceLE, Int.reduceEq, Int.reduceNe, Int.reduceToNat, Int.reduceAdd, Int.reduceSub, reduceCtorEq, Nat.reduceBEq, Nat.reduceBNe, lenOf_imm, lt, lc, x0, x1, h60, h8, ha]
    exact hY _
  by_cases hb : (300 : Int) < (b.length : Int)
  · simp only [U10_app, awakeD_eq, Z10, x10_29, base1, ↓reduceIte, Nat.reduceAdd, Nat.reduceSub, Nat.reduceMul, Nat.reduceEqDiff, Nat.reduceLeDiff, Nat.reduceLT, Int.reduceLT, Int.reduceLE, Int.reduceEq, Int.reduceNe, Int.reduceToNat, Int.reduceAdd, Int.reduceSub, reduceCtorEq, Nat.reduceBEq, Nat.reduceBNe, lenOf_imm, lt, lc, x0, x1, h60, h8, ha, hb]
    exact hY _
  simp only [U10_app, awakeD_eq, Z10, x10_29, base1, ↓reduceIte, Nat.reduceAdd, Nat.reduceSub, Nat.reduceMul, Nat.reduceEqDiff, Nat.reduceLeDiff, Nat.reduceLT, Int.reduceLT, Int.reduceLE, Int.reduceEq, Int.reduceNe, Int.reduceToNat, Int.reduceAdd, Int.reduceSub, reduceCtorEq, Nat.reduceBEq, Nat.reduceBNe, lenOf_imm, lt, lc, x0, x1, h60, h8, ha, hb]
  refine ⟨rfl, ?_⟩
  simp only [U10_app, awakeD_eq, Z10, x10_29, base1, ↓reduceIte, Nat.reduceAdd, Nat.reduceSub, Nat.reduceMul, Nat.reduceEqDiff, Nat.reduceLeDiff, Nat.reduceLT, Int.reduceLT, Int.reduceLE, Int.reduceEq, Int.reduceNe, Int.reduceToNat, Int.reduceAdd, Int.reduceSub, reduceCtorEq, Nat.reduceBEq, Nat.reduceBNe, lenOf_imm, lt, lc, x0, x1, h60, h8, ha, hb]
  refine go_hold (B := 0) (S := 1) (n := n) (a := a) (b := b) (texts := .imm (texts.map fun s => [.str s]) false false) (cuts := cuts) (Lv := .nilslice) (by omega) ⟨rfl, .inl ⟨rfl, rfl⟩, fun h hh => by simp at hh, fun h hh => by simp at hh, fun h hh => by simp at hh, by simp, ⟨by simp [LvD], fun h hh => by simp at hh, fun h hh => by simp at hh, fun i j h k hh => by simp at hh⟩⟩ rfl ?_ rfl rfl rfl rfl rfl rfl rfl hY ?_
  · rintro (e | e | ⟨k, hk, _⟩)
    · cases e
    · cases e
    · simp at hk
  rintro e σ Lv hs hS hemp hd hc h9 hB hBo e0 e3 e6 e9
  simp only [U10_app, awakeD_eq, Z10, x10_29, base1, ↓reduceIte, Nat.reduceAdd, Nat.reduceSub, Nat.reduceMul, Nat.reduceEqDiff, Nat.reduceLeDiff, Nat.reduceLT, Int.reduceLT, Int.reduceLE, Int.reduceEq, Int.reduceNe, Int.reduceToNat, Int.reduceAdd, Int.reduceSub, reduceCtorEq, Nat.reduceBEq, Nat.reduceBNe, e0, e3, e6, e9]
  have hpA : hget (hpush σ [.nilslice]) σ.length = some [.nilslice] := push_new rfl
  have pA : put [AV.nilslice] 0 [.nilslice] = some [.nilslice] := rfl
  have kpA : Kp σ (hset (hpush σ [.nilslice]) σ.length [.nilslice]) := Kp.pushSet
  have hA := set_same (c := [AV.nilslice]) hpA
  have hAo : ¬ Own 1 Lv hs σ.length := fun ho => by have := own_lt hS ho; omega
  have hBA : σ.length ≠ 0 := by have := hget_lt hB; omega
  simp only [U10_app, awakeD_eq, Z10, x10_29, base1, ↓reduceIte, Nat.reduceAdd, Nat.reduceSub, Nat.reduceMul, Nat.reduceEqDiff, Nat.reduceLeDiff, Nat.reduceLT, Int.reduceLT, Int.reduceLE, Int.reduceEq, Int.reduceNe, Int.reduceToNat, Int.reduceAdd, Int.reduceSub, reduceCtorEq, Nat.reduceBEq, Nat.reduceBNe, e0, e3, e6, e9, hpA, pA]
  have hS1 := kpA.store hS
  have hB1 := kpA _ _ hB
  generalize hσ1 : hset (hpush σ [.nilslice]) σ.length [.nilslice] = σ1 at kpA hA hS1 hB1 ⊢
  generalize σ.length = A at hA hAo hBA ⊢
  refine go_texts (B := 0) (S := 1) (A := A) (n := n) (a := a) (b := b) (texts := texts) (by omega) hsz hBA hS1 hemp hd hc h9 hA hAo hB1 hBo e0 e3 e6 e9 rfl rfl ?_
  clear e0 e3 e6 e9
  rintro e σ2 Lv2 Mv hs2 all hS2 hC hM hB2 e3 e6 e9 e13
  simp only [U10_app, awakeD_eq, Z10, x10_29, base1, ↓reduceIte, Nat.reduceAdd, Nat.reduceSub, Nat.reduceMul, Nat.reduceEqDiff, Nat.reduceLeDiff, Nat.reduceLT, Int.reduceLT, Int.reduceLE, Int.reduceEq, Int.reduceNe, Int.reduceToNat, Int.reduceAdd, Int.reduceSub, reduceCtorEq, Nat.reduceBEq, Nat.reduceBNe, e3, e6, e9, e13, hB2, x0, x1]
  refine ⟨a, b, n, rfl, hn, hn16, by omega, by omega, fun σ3 T k3 hTf hT => ?_⟩
  simp only [U10_app, awakeD_eq, Z10, x10_29, base1, ↓reduceIte, Nat.reduceAdd, Nat.reduceSub, Nat.reduceMul, Nat.reduceEqDiff, Nat.reduceLeDiff, Nat.reduceLT, Int.reduceLT, Int.reduceLE, Int.reduceEq, Int.reduceNe, Int.reduceToNat, Int.reduceAdd, Int.reduceSub, reduceCtorEq, Nat.reduceBEq, Nat.reduceBNe, e3, e6, e9, e13]
  refine go_inner (B := 0) (S := 1) (A := A) (T := T) (n := n) hn hn16 hS2 hC ⟨e6, e9, e13, rfl⟩ rfl k3 hT hTf ?_
  clear e3 e6 e9 e13
  rintro e σ4 cur Lt Pt ps ⟨e6, e9, e13, e17⟩ k4 hT4 hch hend hps
  simp only [U10_app, awakeD_eq, Z10, x10_29, base1, ↓reduceIte, Nat.reduceAdd, Nat.reduceSub, Nat.reduceMul, Nat.reduceEqDiff, Nat.reduceLeDiff, Nat.reduceLT, Int.reduceLT, Int.reduceLE, Int.reduceEq, Int.reduceNe, Int.reduceToNat, Int.reduceAdd, Int.reduceSub, reduceCtorEq, Nat.reduceBEq, Nat.reduceBNe, e6, e9, e13, e17]
  refine go_want (B := 0) (A := A) (T := T) (k4 _ _ hB2) (k4.map hM) hC.len e6 e13 e17 rfl rfl ?_
  clear e6 e9 e13 e17
  rintro e σ5 Wv k5 hW e6 e17 e26
  simp only [U10_app, awakeD_eq, Z10, x10_29, base1, ↓reduceIte, Nat.reduceAdd, Nat.reduceSub, Nat.reduceMul, Nat.reduceEqDiff, Nat.reduceLeDiff, Nat.reduceLT, Int.reduceLT, Int.reduceLE, Int.reduceEq, Int.reduceNe, Int.reduceToNat, Int.reduceAdd, Int.reduceSub, reduceCtorEq, Nat.reduceBEq, Nat.reduceBNe, e6, e17, e26]
  have hT5 := k5.tour hT4
  refine ⟨T, cur, b, n, true, Lt, Pt, _, ps, rfl, hT5, by omega, fun σ6 Pv k6 f6 hP => ?_⟩
  simp only [U10_app, awakeD_eq, Z10, x10_29, base1, ↓reduceIte, Nat.reduceAdd, Nat.reduceSub, Nat.reduceMul, Nat.reduceEqDiff, Nat.reduceLeDiff, Nat.reduceLT, Int.reduceLT, Int.reduceLE, Int.reduceEq, Int.reduceNe, Int.reduceToNat, Int.reduceAdd, Int.reduceSub, reduceCtorEq, Nat.reduceBEq, Nat.reduceBNe, e6, e17, e26]
  refine go_parts (B := 0) (T := T) (Wv := Wv) hP hch hps e6 e17 e26 rfl rfl ?_
  clear e6 e17 e26
  rintro e e6 e17 e26 e29
  simp only [U10_app, awakeD_eq, Z10, x10_29, base1, ↓reduceIte, Nat.reduceAdd, Nat.reduceSub, Nat.reduceMul, Nat.reduceEqDiff, Nat.reduceLeDiff, Nat.reduceLT, Int.reduceLT, Int.reduceLE, Int.reduceEq, Int.reduceNe, Int.reduceToNat, Int.reduceAdd, Int.reduceSub, reduceCtorEq, Nat.reduceBEq, Nat.reduceBNe, e6, e17, e26, e29]
  have hT6 := k6.tour hT5
  have hrl : (recsS all a b).length ≤ 60 := by
    have h1 := List.length_filter_le (pS a b) all
    have h2 := hC.len
    simp only [recsS, List.length_map]; omega
  have hB6 := k6 _ _ (k5 _ _ (k4 _ _ hB2))
  have lp : (recC ps).length = ps.length := by simp
  refine ⟨T, cur, b, n, true, Lt, Pt, rfl, hT6.tt, ?_⟩
  simp only [U10_app, awakeD_eq, Z10, x10_29, base1, ↓reduceIte, Nat.reduceAdd, Nat.reduceSub, Nat.reduceMul, Nat.reduceEqDiff, Nat.reduceLeDiff, Nat.reduceLT, Int.reduceLT, Int.reduceLE, Int.reduceEq, Int.reduceNe, Int.reduceToNat, Int.reduceAdd, Int.reduceSub, reduceCtorEq, Nat.reduceBEq, Nat.reduceBNe, e6, e17, e26, e29]
  refine ⟨T, cur, b, n, true, Lt, Pt, _, ps, rfl, hT6, by omega, fun σ7 v k7 f7 hv => ?_⟩
  simp only [U10_app, awakeD_eq, Z10, x10_29, base1, ↓reduceIte, Nat.reduceAdd, Nat.reduceSub, Nat.reduceMul, Nat.reduceEqDiff, Nat.reduceLeDiff, Nat.reduceLT, Int.reduceLT, Int.reduceLE, Int.reduceEq, Int.reduceNe, Int.reduceToNat, Int.reduceAdd, Int.reduceSub, reduceCtorEq, Nat.reduceBEq, Nat.reduceBNe, e6, e17, e26, e29]
  refine ⟨v, Wv, _, rfl, hv, k7.grow (k6.grow hW), by omega, ?_⟩
  have hls : lenSl Pv = some ps.length := grow_lenS ⟨hP, lp⟩
  by_cases h0 : ps = []
  · have hls0 : lenSl Pv = some 0 := by rw [hls, h0]; rfl
    simp only [U10_app, awakeD_eq, Z10, x10_29, base1, ↓reduceIte, Nat.reduceAdd, Nat.reduceSub, Nat.reduceMul, Nat.reduceEqDiff, Nat.reduceLeDiff, Nat.reduceLT, Int.reduceLT, Int.reduceLE, Int.reduceEq, Int.reduceNe, Int.reduceToNat, Int.reduceAdd, Int.reduceSub, reduceCtorEq, Nat.reduceBEq, Nat.reduceBNe, e6, e17, e26, e29, hls0, Option.map_some]
    exact hY _
  · have hcur := hend.resolve_left h0
    have hpos : 0 < ps.length := List.length_pos_iff.2 h0
    obtain ⟨d, rfl, hd', h3⟩ : ∃ d, Pv = .slice d 0 ps.length none 2 ∧ hget σ7 d = some (recC ps).flatten ∧ ∀ x ∈ recC ps, x.length = 2 := by
      rcases k7.grow hP with ⟨_, h1⟩ | ⟨d, h1, h2, h3, _⟩
      · exact absurd (by simpa using h1) h0
      · exact ⟨d, by rw [h1, lp], h2, h3⟩
    obtain ⟨p, hp⟩ : ∃ p, ps[0]? = some p := ⟨_, List.getElem?_eq_getElem hpos⟩
    obtain ⟨q, hq⟩ : ∃ q, ps[ps.length - 1]? = some q := ⟨_, List.getElem?_eq_getElem (by omega)⟩
    have hpa := chP_first hch hp
    have hqb := (chP_last hch hq).trans hcur
    have r1 : (recC ps)[0]? = some [.str p.1, .str p.2] := by rw [recC, List.getElem?_map, hp]; rfl
    have r2 : (recC ps)[ps.length - 1]? = some [.str q.1, .str q.2] := by rw [recC, List.getElem?_map, hq]; rfl
    have c1 : (recC ps).flatten[0]? = some (.str p.1) := by
      have := flat_at (i := 0) (j := 0) h3 r1 rfl
      simpa using this
    have c2 : (recC ps).flatten[(ps.length - 1) * 2 + 1]? = some (.str q.2) := flat_at (j := 1) h3 r2 rfl
    rw [hpa] at c1
    rw [hqb] at c2
    have l0 : lenOf (.slice d 0 ps.length none 2) = some ps.length := rfl
    have n0 : ¬ (ps.length : Int) = 0 := by omega
    have hw1 : IntKind.wrap .i64 ((ps.length : Int) - 1) = ((ps.length - 1 : Nat) : Int) := by rw [Gz.wrap64 (by omega)]; omega
    have hlt1 : ((ps.length - 1 : Nat) : Int) < (ps.length : Int) := by omega
    have hge1 : (0 : Int) ≤ ((ps.length - 1 : Nat) : Int) := by omega
    have hlt1' : ps.length - 1 < ps.length := by omega
    have hpos' : (0 : Int) < (ps.length : Int) := by omega
    have hB7 := k7 _ _ hB6
    simp only [U10_app, awakeD_eq, Z10, x10_29, base1, ↓reduceIte, Nat.reduceAdd, Nat.reduceSub, Nat.reduceMul, Nat.reduceEqDiff, Nat.reduceLeDiff, Nat.reduceLT, Int.reduceLT, Int.reduceLE, Int.reduceEq, Int.reduceNe, Int.reduceToNat, Int.reduceAdd, Int.reduceSub, reduceCtorEq, Nat.reduceBEq, Nat.reduceBNe, e6, e17, e26, e29, l0, Option.map_some, n0, hpos, hpos', hd', c1, c2, hB7, x0, x1, hw1, hlt1, hge1, hlt1', Int.toNat_natCast]
    exact hY _
end Go.Proofs.Ytmjnmnhpmbbmgaa.tour
