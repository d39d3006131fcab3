/- Groups, in plain words. No condition. -/
import Derived.Test.YtnooejmbhdgbpaaGreatDoorK41
import Derived.Test.YtnooejmbhdgbpaaGreatDoorK38
set_option linter.unusedVariables false
set_option linter.unusedSimpArgs false
namespace Go.Proofs.YtnooejmbhdgbpaaGreatDoor.gauge
section
variable {K T : Type}
structure Grp (f : T → K) (l : List T) (ks : List K) (out : List (List T)) : Prop where
  len : ks.length = out.length
  nd : ks.Nodup
  mem : ∀ (i : Nat) (g : List T) (k : K), out[i]? = some g → ks[i]? = some k → g ≠ [] ∧ ∀ x ∈ g, f x = k ∧ x ∈ l
  all : ∀ x ∈ l, f x ∈ ks
  sum : (out.map List.length).sum = l.length
theorem Grp.nil (f : T → K) : Grp f [] [] [] := ⟨rfl, .nil, fun i g k h => by simp at h, fun x h => by simp at h, rfl⟩
theorem sum_set {out : List Nat} : ∀ {i n m : Nat}, out[i]? = some n → (out.set i m).sum + n = out.sum + m := by
  induction out with
  | nil => intro i n m h; simp at h
  | cons a r ih =>
    intro i n m h
    cases i with
    | zero => simp at h; subst h; simp; omega
    | succ i =>
      have := ih (m := m) (by simpa using h)
      simp only [List.set_cons_succ, List.sum_cons]; omega
theorem Grp.pos {f : T → K} {l : List T} {ks : List K} {out : List (List T)} (h : Grp f l ks out) {i : Nat} {g : List T} (hg : out[i]? = some g) : ∃ x r, g = x :: r ∧ ks[i]? = some (f x) ∧ ∀ y ∈ g, f y = f x := by
  have hi : i < out.length := by
    rcases Nat.lt_or_ge i out.length with h' | h'
    · exact h'
    · rw [List.getElem?_eq_none h'] at hg; cases hg
  have hk : ks[i]? = some (ks[i]'(by rw [h.len]; exact hi)) := List.getElem?_eq_getElem (by rw [h.len]; exact hi)
  obtain ⟨h1, h2⟩ := h.mem i g _ hg hk
  cases g with
  | nil => exact absurd rfl h1
  | cons x r =>
    have hx := (h2 x (by simp)).1
    exact ⟨x, r, rfl, by rw [hk, ← hx], fun y hy => by rw [(h2 y hy).1, hx]⟩
end
section
variable {K T : Type} [DecidableEq K]
/-- Where a key stands. -/
def ix (k : K) : List K → Option Nat
  | [] => none
  | y :: r => if k = y then some 0 else (ix k r).map (· + 1)
theorem ix_some {k : K} : ∀ {ks : List K} {i : Nat}, ix k ks = some i → ks[i]? = some k
  | y :: r, i, h => by
    unfold ix at h
    split at h
    · rename_i hk; subst hk; cases h; rfl
    · obtain ⟨j, hj, rfl⟩ := Option.map_eq_some_iff.1 h
      simpa using ix_some hj
theorem ix_none {k : K} : ∀ {ks : List K}, ix k ks = none → k ∉ ks
  | [], _ => by simp
  | y :: r, h => by
    unfold ix at h
    split at h
    · cases h
    · rename_i hk
      have := ix_none (Option.map_eq_none_iff.1 h)
      simp [hk, this]
theorem ix_lt {k : K} {ks : List K} {i : Nat} (h : ix k ks = some i) : i < ks.length := by
  have := ix_some h
  rcases Nat.lt_or_ge i ks.length with h' | h'
  · exact h'
  · rw [List.getElem?_eq_none h'] at this; cases this
theorem ix_end {k : K} : ∀ {ks : List K}, ix k ks = none → ix k (ks ++ [k]) = some ks.length
  | [], _ => by simp [ix]
  | y :: r, h => by
    unfold ix at h
    split at h
    · cases h
    · rename_i hk
      have := ix_end (Option.map_eq_none_iff.1 h)
      simp only [List.cons_append, ix, if_neg hk, this, Option.map_some, List.length_cons]
/-- What one more item makes of the keys, of the groups. -/
def keysN (k : K) (ks : List K) : List K := match ix k ks with | some _ => ks | none => ks ++ [k]
def rowsN (k : K) (x : T) (ks : List K) (out : List (List T)) : List (List T) :=
  match ix k ks with
  | some i => out.set i ((out[i]?).getD [] ++ [x])
  | none => out ++ [[x]]
def grpK (f : T → K) : List T → List K → List K
  | [], ks => ks
  | x :: l, ks => grpK f l (keysN (f x) ks)
def grpO (f : T → K) : List T → List K → List (List T) → List (List T)
  | [], _, out => out
  | x :: l, ks, out => grpO f l (keysN (f x) ks) (rowsN (f x) x ks out)
theorem Grp.step {f : T → K} {l : List T} {ks : List K} {out : List (List T)} (h : Grp f l ks out) (x : T) : Grp f (l ++ [x]) (keysN (f x) ks) (rowsN (f x) x ks out) := by
  have hlen := h.len
  unfold keysN rowsN
  cases hx : ix (f x) ks with
  | none =>
    have hn := ix_none hx
    refine ⟨by simp [h.len], ?_, fun i g k hg hk => ?_, fun y hy => ?_, ?_⟩
    · show (ks ++ [f x]).Nodup
      rw [List.nodup_append]
      refine ⟨h.nd, by simp, fun a ha b hb => ?_⟩
      simp at hb; subst hb; intro e; subst e; exact hn ha
    · rcases Nat.lt_or_ge i out.length with hi | hi
      · rw [List.getElem?_append_left hi] at hg
        rw [List.getElem?_append_left (by omega)] at hk
        obtain ⟨h1, h2⟩ := h.mem i g k hg hk
        exact ⟨h1, fun y hy => ⟨(h2 y hy).1, by simp [(h2 y hy).2]⟩⟩
      · rw [List.getElem?_append_right hi] at hg
        rw [List.getElem?_append_right (by omega), hlen] at hk
        have hi0 : i - out.length = 0 := by
          rcases Nat.eq_zero_or_pos (i - out.length) with e | e
          · exact e
          · rw [List.getElem?_eq_none (by simp; omega)] at hg; cases hg
        rw [hi0] at hg hk
        simp at hg hk
        subst hg; subst hk
        exact ⟨by simp, fun y hy => by simp at hy; subst hy; simp⟩
    · rcases List.mem_append.1 hy with hy | hy
      · exact List.mem_append_left _ (h.all y hy)
      · simp at hy; subst hy; simp
    · simp [h.sum]
  | some i =>
    have hk := ix_some hx
    have hi := ix_lt hx
    have ho : out[i]? = some (out[i]'(by omega)) := List.getElem?_eq_getElem (by omega)
    simp only [ho, Option.getD_some]
    refine ⟨by simp [h.len], h.nd, fun j g k hg hk' => ?_, fun y hy => ?_, ?_⟩
    · rw [List.getElem?_set] at hg
      split at hg
      · rename_i hij
        subst hij
        simp only [show i < out.length by omega, if_true, Option.some.injEq] at hg
        subst hg
        rw [hk] at hk'; cases hk'
        refine ⟨by simp, fun y hy => ?_⟩
        rcases List.mem_append.1 hy with hy | hy
        · obtain ⟨h1, h2⟩ := (h.mem i _ _ ho hk).2 y hy
          exact ⟨h1, by simp [h2]⟩
        · simp at hy; subst hy; simp
      · obtain ⟨h1, h2⟩ := h.mem j g k hg hk'
        exact ⟨h1, fun y hy => ⟨(h2 y hy).1, by simp [(h2 y hy).2]⟩⟩
    · rcases List.mem_append.1 hy with hy | hy
      · exact h.all y hy
      · simp at hy; subst hy; exact List.mem_of_getElem? hk
    · rw [List.map_set]
      have := sum_set (out := out.map List.length) (i := i) (n := (out[i]'(by omega)).length) (m := ((out[i]'(by omega)) ++ [x]).length) (by rw [List.getElem?_map, ho]; rfl)
      rw [h.sum] at this
      simp only [List.length_append, List.length_cons, List.length_nil] at this ⊢
      omega
theorem Grp.of {f : T → K} : ∀ {l pre : List T} {ks : List K} {out : List (List T)}, Grp f pre ks out → Grp f (pre ++ l) (grpK f l ks) (grpO f l ks out)
  | [], pre, ks, out, h => by simpa [grpK, grpO] using h
  | x :: l, pre, ks, out, h => by
    have := Grp.of (l := l) (h.step x)
    simpa [grpK, grpO] using this
theorem grp_ok (f : T → K) (l : List T) : Grp f l (grpK f l []) (grpO f l [] []) := by
  have := Grp.of (l := l) (Grp.nil f)
  simpa using this
theorem nodup_le {a b : List K} (h : a.Nodup) (hs : ∀ x ∈ a, x ∈ b) : a.length ≤ b.length := by
  induction a generalizing b with
  | nil => simp
  | cons x r ih =>
    have hx := hs x (by simp)
    rw [List.nodup_cons] at h
    have := ih (b := b.erase x) h.2 fun y hy => by
      have hne : y ≠ x := fun e => h.1 (e ▸ hy)
      exact (List.mem_erase_of_ne hne).2 (hs y (by simp [hy]))
    rw [List.length_erase_of_mem hx] at this
    have : 0 < b.length := List.length_pos_of_mem hx
    simp only [List.length_cons]; omega
end
end Go.Proofs.YtnooejmbhdgbpaaGreatDoor.gauge

/- Rows of rows that grow, in the heap. No condition. -/
set_option linter.unusedVariables false
set_option linter.unusedSimpArgs false
namespace Go.Gz.H
theorem grow_has {σ : AHeap} {Lv : AV} {w d : Nat} {rows : List (List AV)} (h : Grow σ Lv w rows) (hd : LvD Lv = some d) : ∃ c, hget σ d = some c := by
  rcases h with ⟨rfl, _⟩ | ⟨d', rfl, h, _⟩
  · cases hd
  · cases hd; exact ⟨_, h⟩
/-- Which blocks are theirs. -/
def Mine (Ov : AV) (cs : List AV) (j : Nat) : Prop := LvD Ov = some j ∨ ∃ c ∈ cs, LvD c = some j
structure GS (σ : AHeap) (Ov : AV) (cs : List AV) (out : List (List AV)) : Prop where
  top : Grow σ Ov 1 (cs.map fun c => [c])
  len : cs.length = out.length
  row : ∀ (i : Nat) (c : AV) (g : List AV), cs[i]? = some c → out[i]? = some g → Grow σ c 1 (g.map fun x => [x])
  ne : ∀ c ∈ cs, ∀ d, LvD c = some d → LvD Ov ≠ some d
  dis : ∀ (i j : Nat) (c c' : AV) (d : Nat), cs[i]? = some c → cs[j]? = some c' → LvD c = some d → LvD c' = some d → i = j
theorem GS.nil (σ : AHeap) : GS σ .nilslice [] [] :=
  ⟨.inl ⟨rfl, rfl⟩, rfl, fun i c g h => by simp at h, fun c h => by simp at h, fun i j c c' d h => by simp at h⟩
theorem GS.frame {σ τ : AHeap} {Ov : AV} {cs : List AV} {out : List (List AV)} (h : GS σ Ov cs out) (hf : ∀ j c, hget σ j = some c → Mine Ov cs j → hget τ j = some c) : GS τ Ov cs out :=
  ⟨grow_frame h.top fun j c hj hl => hf j c hj (.inl hl), h.len, fun i c g hc hg => grow_frame (h.row i c g hc hg) fun j b hj hl => hf j b hj (.inr ⟨c, List.mem_of_getElem? hc, hl⟩), h.ne, h.dis⟩
theorem GS.at {σ : AHeap} {Ov : AV} {cs : List AV} {out : List (List AV)} (h : GS σ Ov cs out) {i : Nat} {c : AV} (hc : cs[i]? = some c) : ∃ g, out[i]? = some g := by
  have hi : i < out.length := by rw [← h.len]; exact idx_lt hc
  exact ⟨out[i], List.getElem?_eq_getElem hi⟩
theorem GS.cell {σ : AHeap} {Ov : AV} {cs : List AV} {out : List (List AV)} (h : GS σ Ov cs out) : ∀ c ∈ cs, c.isCell = true := fun c hc => by
  obtain ⟨i, hi⟩ := List.getElem?_of_mem hc
  obtain ⟨g, hg⟩ := h.at hi
  exact grow_cell (h.row i c g hi hg)
theorem flat_one (cs : List AV) : (cs.map fun c => [c]).flatten = cs := by
  induction cs with
  | nil => rfl
  | cons c r ih => simp [ih]
theorem GS.has {σ : AHeap} {Ov : AV} {cs : List AV} {out : List (List AV)} (h : GS σ Ov cs out) {c : AV} (hc : c ∈ cs) {d : Nat} (hd : LvD c = some d) : ∃ b, hget σ d = some b := by
  obtain ⟨i, hi⟩ := List.getElem?_of_mem hc
  obtain ⟨g, hg⟩ := h.at hi
  exact grow_has (h.row i c g hi hg) hd
/-- One row more, of nothing. -/
theorem GS.more {σ : AHeap} {Ov : AV} {cs : List AV} {out : List (List AV)} {b : Nat} (hb : b ≤ 1000) (h : GS σ Ov cs out) (hk : cs.length < 1000000000) :
    ∃ v τ, evAppend 1 b Ov (.slice σ.length 0 1 (some 1) 1) (hpush σ [.nilslice]) = some (v, τ) ∧ v.isCell = true ∧ v.cells? = some [v] ∧ lenOf v = some (cs.length + 1) ∧ GS τ v (cs ++ [.nilslice]) (out ++ [[]]) ∧
      (∀ j c, hget σ j = some c → ¬ Mine Ov cs j → hget τ j = some c ∧ ¬ Mine v (cs ++ [.nilslice]) j) := by
  obtain ⟨v, τ, h1, h2, h3, h4, h5⟩ := grow_one hb h.top (by simpa using hk) [.nilslice] rfl rfl
  have h5' : Grow τ v 1 ((cs ++ [AV.nilslice]).map fun c => [c]) := by simpa using h5
  refine ⟨v, τ, h1, h2, h3, by have := grow_len h5'; simpa using this, ⟨h5', by simp [h.len], fun i c g hc hg => ?_, fun c hc d hd => ?_, fun i j c c' d hc hc' hd hd' => ?_⟩, fun j c hj hm => ?_⟩
  · rcases Nat.lt_or_ge i cs.length with hi | hi
    · rw [List.getElem?_append_left hi] at hc
      rw [List.getElem?_append_left (by rw [← h.len]; exact hi)] at hg
      exact grow_frame (h.row i c g hc hg) fun j b hj hl => (h4 j b hj (h.ne c (List.mem_of_getElem? hc) j hl)).1
    · rw [List.getElem?_append_right hi] at hc
      rw [List.getElem?_append_right (by rw [← h.len]; exact hi), ← h.len] at hg
      match hm : i - cs.length with
      | 0 => rw [hm] at hc hg; simp at hc hg; subst hc; subst hg; exact .inl ⟨rfl, rfl⟩
      | n + 1 => rw [hm] at hc; simp at hc
  · rcases List.mem_append.1 hc with hc | hc
    · obtain ⟨b, hb'⟩ := h.has hc hd
      exact (h4 d b hb' (h.ne c hc d hd)).2
    · simp at hc; subst hc; cases hd
  · have old : ∀ {i : Nat} {c : AV}, (cs ++ [AV.nilslice])[i]? = some c → LvD c = some d → cs[i]? = some c := by
      intro i c hc hd
      rcases Nat.lt_or_ge i cs.length with hi | hi
      · rwa [List.getElem?_append_left hi] at hc
      · rw [List.getElem?_append_right hi] at hc
        match hm : i - cs.length with
        | 0 => rw [hm] at hc; simp at hc; subst hc; cases hd
        | n + 1 => rw [hm] at hc; simp at hc
    exact h.dis i j c c' d (old hc hd) (old hc' hd') hd hd'
  · obtain ⟨q1, q2⟩ := h4 j c hj fun e => hm (.inl e)
    refine ⟨q1, ?_⟩
    rintro (e | ⟨c', hc', e⟩)
    · exact q2 e
    · rcases List.mem_append.1 hc' with hc' | hc'
      · exact hm (.inr ⟨c', hc', e⟩)
      · simp at hc'; subst hc'; cases e
/-- One item more in a row. -/
theorem GS.app {σ : AHeap} {Ov : AV} {cs : List AV} {out : List (List AV)} {b : Nat} (hb : b ≤ 1000) (h : GS σ Ov cs out) {i : Nat} {c : AV} {g : List AV} (hc : cs[i]? = some c) (hg : out[i]? = some g) (hk : g.length < 1000000000) (x : AV) (hx : x.isCell = true) :
    ∃ v τ d, Ov = .slice d 0 cs.length none 1 ∧ hget σ d = some cs ∧ evAppend 1 b c (.slice σ.length 0 1 (some 1) 1) (hpush σ [x]) = some (v, τ) ∧ v.isCell = true ∧ v.cells? = some [v] ∧ hget τ d = some cs ∧ Gz.put cs i [v] = some (cs.set i v) ∧
      GS (hset τ d (cs.set i v)) Ov (cs.set i v) (out.set i (g ++ [x])) ∧
      (∀ j c, hget σ j = some c → ¬ Mine Ov cs j → hget (hset τ d (cs.set i v)) j = some c ∧ ¬ Mine Ov (cs.set i v) j) := by
  have hi := idx_lt hc
  have hcm := List.mem_of_getElem? hc
  obtain ⟨v, τ, h1, h2, h3, h4, h5⟩ := grow_one hb (h.row i c g hc hg) (by simpa using hk) [x] rfl (by simp [hx])
  have h5' : Grow τ v 1 ((g ++ [x]).map fun y => [y]) := by simpa using h5
  rcases h.top with ⟨_, he⟩ | ⟨d, rfl, hd, hw, hall⟩
  · have : cs = [] := by simpa using he
    subst this; simp at hc
  have hd' : hget σ d = some cs := by rw [hd, flat_one]
  have hne : LvD c ≠ some d := fun e => h.ne c hcm d e rfl
  obtain ⟨hτd, hvd⟩ := h4 d cs hd' hne
  have hput : Gz.put cs i [v] = some (cs.set i v) := put_one1 hi
  have hset_d : hget (hset τ d (cs.set i v)) d = some (cs.set i v) := set_same hτd
  have mem_set : ∀ {c' : AV}, c' ∈ cs.set i v → c' = v ∨ ∃ k, k ≠ i ∧ cs[k]? = some c' := by
    intro c' hc'
    obtain ⟨k, hk'⟩ := List.getElem?_of_mem hc'
    rw [List.getElem?_set] at hk'
    by_cases hik : i = k
    · rw [if_pos hik] at hk'
      split at hk'
      · left; cases hk'; rfl
      · first | (left; cases hk'; rfl; done) | cases hk'
    · rw [if_neg hik] at hk'; right; exact ⟨k, fun e => hik e.symm, hk'⟩
  refine ⟨v, τ, d, by simp, hd', h1, h2, h3, hτd, hput, ⟨?_, by simp [h.len], fun k c' g' hc' hg' => ?_, fun c' hc' d' hl => ?_, fun k k' c' c'' d' hc' hc'' hl hl' => ?_⟩, fun j c' hj hm => ?_⟩
  · refine .inr ⟨d, by simp, by rw [hset_d, flat_one], fun r hr => ?_, ?_⟩
    · obtain ⟨y, _, rfl⟩ := List.mem_map.1 hr; rfl
    rw [flat_one, List.all_eq_true]
    intro y hy
    rcases mem_set hy with rfl | ⟨k, _, hk'⟩
    · exact h2
    · exact h.cell y (List.mem_of_getElem? hk')
  · rw [List.getElem?_set] at hc' hg'
    by_cases hik : i = k
    · subst hik
      simp only [if_true, hi, show i < out.length by rw [← h.len]; exact hi, Option.some.injEq] at hc' hg'
      subst hc'; subst hg'
      exact grow_frame h5' fun j b hj hl => by rw [set_other (fun e => hvd (by rw [e]; exact hl))]; exact hj
    · rw [if_neg hik] at hc' hg'
      refine grow_frame (h.row k c' g' hc' hg') fun j b hj hl => ?_
      have hjd : d ≠ j := fun e => h.ne c' (List.mem_of_getElem? hc') j hl (by rw [← e]; rfl)
      have hji : LvD c ≠ some j := fun e => hik (h.dis i k c c' j hc hc' e hl)
      rw [set_other hjd]
      exact (h4 j b hj hji).1
  · rcases mem_set hc' with rfl | ⟨k, hk', hc''⟩
    · intro e; cases e; exact hvd hl
    · exact h.ne c' (List.mem_of_getElem? hc'') d' hl
  · rw [List.getElem?_set] at hc' hc''
    have hvo : ∀ {k : Nat} {y : AV}, i ≠ k → cs[k]? = some y → LvD y = some d' → LvD v ≠ some d' := by
      intro k y hik hy hly
      have hji : LvD c ≠ some d' := fun e => hik (h.dis i k c y d' hc hy e hly)
      obtain ⟨b, hb'⟩ := h.has (List.mem_of_getElem? hy) hly
      exact (h4 d' b hb' hji).2
    by_cases h1' : i = k
    · by_cases h2' : i = k'
      · omega
      · rw [if_neg h2'] at hc''
        rw [if_pos h1', if_pos (by omega)] at hc'
        cases hc'
        exact absurd hl (hvo h2' hc'' hl')
    · rw [if_neg h1'] at hc'
      by_cases h2' : i = k'
      · rw [if_pos h2', if_pos (by omega)] at hc''
        cases hc''
        exact absurd hl' (hvo h1' hc' hl)
      · rw [if_neg h2'] at hc''
        exact h.dis k k' c' c'' d' hc' hc'' hl hl'
  · have hjd : d ≠ j := fun e => hm (.inl (by rw [← e]; rfl))
    obtain ⟨q1, q2⟩ := h4 j c' hj fun e => hm (.inr ⟨c, hcm, e⟩)
    refine ⟨by rw [set_other hjd]; exact q1, ?_⟩
    rintro (e | ⟨c'', hc'', e⟩)
    · exact hm (.inl e)
    · rcases mem_set hc'' with rfl | ⟨k, _, hk'⟩
      · exact q2 e
      · exact hm (.inr ⟨c'', List.mem_of_getElem? hk', e⟩)
/-- As rows of rows that nobody writes any more. -/
def immO (out : List (List AV)) : AV := .imm (out.map fun g => [AV.imm (g.map fun x => [x]) false false]) false false
theorem GS.frz {σ : AHeap} {Ov : AV} {cs : List AV} {out : List (List AV)} (h : GS σ Ov cs out) (hp : ∀ g ∈ out, ∀ x ∈ g, x.pure = true) : Frz σ Ov (immO out) := by
  rcases h.top with ⟨rfl, he⟩ | ⟨d, rfl, hd, hw, hall⟩
  · have : cs = [] := by simpa using he
    subst this
    have : out = [] := List.length_eq_zero_iff.1 (by have := h.len; simpa using this.symm)
    subst this
    exact .nil
  · have hd' : hget σ d = some cs := by rw [hd, flat_one]
    refine .slice hd' (ys := cs) ?_ (by simp [h.len]) (by simp) fun i y z hy hz => ?_
    · have := sub_all (cs := cs) (n := (cs.map fun c => [c]).length * 1) (by simp)
      simpa using this
    · have hz' : out[i]?.map (fun g => AV.imm (g.map fun x => [x]) false false) = some z := by
        rw [← List.getElem?_map, ← hz]
        congr 1
        have : ∀ l : List (List AV), l.map (fun g => AV.imm (g.map fun x => [x]) false false) = (l.map fun g => [AV.imm (g.map fun x => [x]) false false]).flatten := by
          intro l
          induction l with
          | nil => rfl
          | cons g r ih => simp [ih]
        exact this out
      obtain ⟨g, hg, rfl⟩ := Option.map_eq_some_iff.1 hz'
      refine grow_frz (h.row i y g hy hg) (pureLL_of fun r hr => ?_)
      obtain ⟨x, hx, rfl⟩ := List.mem_map.1 hr
      exact pureL_of fun y' hy' => by
        have : y' = x := by simpa using hy'
        rw [this]; exact hp g (List.mem_of_getElem? hg) x hx
theorem immO_pure {out : List (List AV)} (hp : ∀ g ∈ out, ∀ x ∈ g, x.pure = true) : (immO out).pure = true := by
  simp only [immO, AV.pure]
  refine pureLL_of fun r hr => ?_
  obtain ⟨g, hg, rfl⟩ := List.mem_map.1 hr
  refine pureL_of fun y hy => ?_
  have : y = AV.imm (g.map fun x => [x]) false false := by simpa using hy
  rw [this, AV.pure]
  refine pureLL_of fun r hr => ?_
  obtain ⟨x, hx, rfl⟩ := List.mem_map.1 hr
  exact pureL_of fun z hz => by
    have : z = x := by simpa using hz
    rw [this]; exact hp g hg x hx
end Go.Gz.H

/- A map's entries, as keys numbered in order. No condition. -/
set_option linter.unusedVariables false
set_option linter.unusedSimpArgs false
namespace Go.Proofs.YtnooejmbhdgbpaaGreatDoor.gauge
open Go.Gz
def ents {K : Type} (kE : K → AV) : List K → Nat → List AV
  | [], _ => []
  | k :: r, i => .tuple [kE k, .int .i64 (i : Int)] :: ents kE r (i + 1)
theorem ents_end {K : Type} {kE : K → AV} (k : K) : ∀ (ks : List K) (j : Nat), ents kE ks j ++ [.tuple [kE k, .int .i64 ((j + ks.length : Nat) : Int)]] = ents kE (ks ++ [k]) j
  | [], j => rfl
  | y :: r, j => by
    show _ :: (ents kE r (j + 1) ++ _) = _
    have := ents_end (kE := kE) k r (j + 1)
    rw [show j + 1 + r.length = j + (r.length + 1) by omega] at this
    rw [List.length_cons, this]; rfl
section
variable {K : Type} [DecidableEq K] {kE : K → AV} {kk : FK}
theorem mfind_ents (hb : ∀ a b, baseEq kk (kE a) (kE b) = some (decide (a = b))) (k : K) : ∀ (ks : List K) (j i : Nat), mfind kk (kE k) (ents kE ks j) i = some ((ix k ks).map fun n => (i + n, .int .i64 ((j + n : Nat) : Int)))
  | [], j, i => rfl
  | y :: r, j, i => by
    show (match baseEq kk (kE k) (kE y) with | some true => some (some (i, AV.int .i64 (j : Int))) | some false => mfind kk (kE k) (ents kE r (j + 1)) (i + 1) | none => none) = _
    rw [hb]
    by_cases h : k = y
    · subst h; simp [ix]
    · simp only [h, decide_false, ix, if_false]
      rw [mfind_ents hb k r (j + 1) (i + 1), Option.map_map]
      congr 2
      funext n
      simp only [Function.comp]
      rw [show i + 1 + n = i + (n + 1) by omega, show j + 1 + n = j + (n + 1) by omega]
theorem minto_ents (hb : ∀ a b, baseEq kk (kE a) (kE b) = some (decide (a = b))) {k : K} {ks : List K} (hx : ix k ks = none) : minto kk (kE k) (.int .i64 (ks.length : Int)) (ents kE ks 0) = some (ents kE (ks ++ [k]) 0) := by
  unfold minto
  rw [hb, mfind_ents hb, hx]
  have := ents_end (kE := kE) k ks 0
  rw [Nat.zero_add] at this
  simp only [Option.map_none, this]
end
end Go.Proofs.YtnooejmbhdgbpaaGreatDoor.gauge
