/- Sorted rows cut into spans: what is put where, what a page of one span shows of all. No condition. -/
import Derived.Test.YtmjnmnhpmbbmgaaTI
set_option linter.unusedVariables false
set_option linter.unusedSimpArgs false
namespace Go.Proofs.Ytmjnmnhpmbbmgaa.tour
open Go.ChangeShapes Go.WideShapes Go.ChangeAt Go.RowKit Go.Gz Go.Gz.H
set_option maxHeartbeats 4000000
theorem srt_ext : ∀ {l l' : List Rw}, Srt l → Srt l' → (∀ x, x ∈ l ↔ x ∈ l') → l = l'
  | [], [], _, _, _ => rfl
  | [], y :: l', _, _, h => by have := (h y).2 (by simp); simp at this
  | x :: l, [], _, _, h => by have := (h x).1 (by simp); simp at this
  | x :: l, y :: l', h1, h2, h => by
    obtain ⟨a1, a2⟩ := List.pairwise_cons.1 h1
    obtain ⟨b1, b2⟩ := List.pairwise_cons.1 h2
    have hxy : x = y := by
      rcases List.mem_cons.1 ((h x).1 (by simp)) with e | e
      · exact e
      · rcases List.mem_cons.1 ((h y).2 (by simp)) with e' | e'
        · exact e'.symm
        · exact absurd (lt_tr (a1 y e') (b1 x e)) (lt_irr _)
    subst hxy
    have := srt_ext (l := l) (l' := l') a2 b2 fun z => ⟨fun hz => by
      rcases List.mem_cons.1 ((h z).1 (by simp [hz])) with e | e
      · subst e; exact absurd (a1 z hz) (lt_irr _)
      · exact e, fun hz => by
      rcases List.mem_cons.1 ((h z).2 (by simp [hz])) with e | e
      · subst e; exact absurd (b1 z hz) (lt_irr _)
      · exact e⟩
    rw [this]
theorem mem_put {l : List Rw} (h : Srt l) (key : Bs) (r : Bs × Bs) (x : Rw) : x ∈ putS l key r ↔ x = (key, r) ∨ (x ∈ l ∧ x.1 ≠ key) := by
  have ha := at_less l key
  have hn := at_not l key
  -- of those from where it stands on, just one has the key
  have hd : x ∈ l.drop (if fdK l key then atS l key + 1 else atS l key) ↔ (x ∈ l.drop (atS l key) ∧ x.1 ≠ key) := by
    cases hx : l[atS l key]? with
    | none =>
      have hl : l.length ≤ atS l key := by simpa using hx
      rw [List.drop_eq_nil_of_le hl]
      split
      · rw [List.drop_eq_nil_of_le (by omega)]; simp
      · rw [List.drop_eq_nil_of_le hl]; simp
    | some y =>
      have hlt := (List.getElem?_eq_some_iff.1 hx).1
      have hcons : l.drop (atS l key) = y :: l.drop (atS l key + 1) := by
        rw [List.drop_eq_getElem_cons hlt, (List.getElem?_eq_some_iff.1 hx).2]
      have hyn := hn y hx
      have hds := srt_drop h hx
      cases hf : fdK l key with
      | true =>
        have hyk : y.1 = key := by
          unfold fdK at hf
          rw [hx] at hf
          exact of_decide_eq_true hf
        rw [hcons]
        simp only [if_true, List.mem_cons]
        constructor
        · intro hx
          refine ⟨.inr hx, fun e => ?_⟩
          have := hds x hx
          rw [hyk, e] at this; exact lt_irr _ this
        · rintro ⟨rfl | hx, hne⟩
          · exact absurd hyk hne
          · exact hx
      | false =>
        have hyk : y.1 ≠ key := by
          unfold fdK at hf
          rw [hx] at hf
          exact of_decide_eq_false hf
        have hky : key < y.1 := ne_lt hyn hyk
        simp only [Bool.false_eq_true, if_false]
        rw [hcons]
        simp only [List.mem_cons]
        constructor
        · rintro (rfl | hx)
          · exact ⟨.inl rfl, hyk⟩
          · refine ⟨.inr hx, fun e => ?_⟩
            have := lt_tr hky (hds x hx)
            rw [e] at this; exact lt_irr _ this
        · rintro ⟨h, _⟩; exact h
  have ht : x ∈ l.take (atS l key) → x.1 ≠ key := fun hx e => by
    have := ha x hx
    rw [e] at this; exact lt_irr _ this
  unfold putS
  rw [List.mem_append, List.mem_cons, hd]
  have hl : x ∈ l ↔ x ∈ l.take (atS l key) ∨ x ∈ l.drop (atS l key) := by rw [← List.mem_append, List.take_append_drop]
  rw [hl]
  constructor
  · rintro (h | h | ⟨h1, h2⟩)
    · exact .inr ⟨.inl h, ht h⟩
    · exact .inl h
    · exact .inr ⟨.inr h1, h2⟩
  · rintro (h | ⟨h1 | h1, h2⟩)
    · exact .inr (.inl h)
    · exact .inl h1
    · exact .inr (.inr ⟨h1, h2⟩)
theorem srt_filter {l : List Rw} (h : Srt l) (p : Rw → Bool) : Srt (l.filter p) := List.Pairwise.sublist List.filter_sublist h
theorem put_in {l : List Rw} (h : Srt l) {f t key : Bs} {r : Bs × Bs} (hp : pS f t (key, r) = true) : (putS l key r).filter (pS f t) = putS (l.filter (pS f t)) key r := by
  refine srt_ext (srt_filter (put_srt h key r) _) (put_srt (srt_filter h _) key r) fun x => ?_
  rw [List.mem_filter, mem_put h, mem_put (srt_filter h _), List.mem_filter]
  constructor
  · rintro ⟨rfl | ⟨h1, h2⟩, h3⟩
    · exact .inl rfl
    · exact .inr ⟨⟨h1, h3⟩, h2⟩
  · rintro (rfl | ⟨⟨h1, h3⟩, h2⟩)
    · exact ⟨.inl rfl, hp⟩
    · exact ⟨.inr ⟨h1, h2⟩, h3⟩
theorem put_out {l : List Rw} (h : Srt l) {f t key : Bs} {r : Bs × Bs} (hp : pS f t (key, r) = false) : (putS l key r).filter (pS f t) = l.filter (pS f t) := by
  refine srt_ext (srt_filter (put_srt h key r) _) (srt_filter h _) fun x => ?_
  rw [List.mem_filter, mem_put h, List.mem_filter]
  constructor
  · rintro ⟨rfl | ⟨h1, h2⟩, h3⟩
    · rw [hp] at h3; cases h3
    · exact ⟨h1, h3⟩
  · rintro ⟨h1, h3⟩
    refine ⟨.inr ⟨h1, fun e => ?_⟩, h3⟩
    have : pS f t x = pS f t (key, r) := by unfold pS; rw [e]
    rw [this, hp] at h3; cases h3
theorem page_split {l : List Rw} (h : Srt l) {cur mid b : Bs} (h1 : ¬ mid < cur) (h2 : mid ≠ []) (h3 : b = [] ∨ ¬ b < mid) : l.filter (pS cur b) = l.filter (pS cur mid) ++ l.filter (pS mid b) := by
  refine srt_ext (srt_filter h _) ?_ fun x => ?_
  · unfold Srt
    rw [List.pairwise_append]
    refine ⟨srt_filter h _, srt_filter h _, fun x hx y hy => ?_⟩
    have a := pS_iff.1 (List.mem_filter.1 hx).2
    have c := pS_iff.1 (List.mem_filter.1 hy).2
    exact lt_le (a.2.resolve_left h2) c.1
  · rw [List.mem_append, List.mem_filter, List.mem_filter, List.mem_filter, pS_iff, pS_iff, pS_iff]
    constructor
    · rintro ⟨m, g1, g2⟩
      by_cases hm : x.1 < mid
      · exact .inl ⟨m, g1, .inr hm⟩
      · exact .inr ⟨m, hm, g2⟩
    · rintro (⟨m, g1, g2⟩ | ⟨m, g1, g2⟩)
      · refine ⟨m, g1, h3.imp _root_.id fun hb => lt_le (g2.resolve_left h2) hb⟩
      · exact ⟨m, le_tr h1 g1, g2⟩
/-- A page of one span, in the light of all rows. -/
theorem page_step {l : List Rw} (h : Srt l) {f t cur b : Bs} {n : Nat} (hn : 1 ≤ n) (hf : ¬ cur < f) (ht : t = [] ∨ cur < t) (hb : b = [] ∨ cur < b) (nx : Bs) (more : Bool) (rs : List Rec)
    (hnx : nx = pgNext (l.filter (pS f t)) cur (endS b t) n) (hmo : more = moreS nx b) (hrs : rs = pgRecs (l.filter (pS f t)) cur (endS b t) n) :
    (more = false ∧ nx = b ∧ rs = recsS l cur b) ∨
    (more = true ∧ cur < nx ∧ (b = [] ∨ nx < b) ∧ rs ++ recsS l nx b = recsS l cur b ∧ ((l.filter (pS nx b)).length < (l.filter (pS cur b)).length ∨ (nx = t ∧ t ≠ []))) := by
  -- where the page ends
  have hen : (endS b t = b ∧ (t = [] ∨ ¬ t < b) ∧ (b = [] → t = [])) ∨ (endS b t = t ∧ t ≠ [] ∧ cur < t ∧ (b = [] ∨ t < b)) := by
    unfold endS
    split
    · rename_i hc
      refine .inl ⟨rfl, hc.2.imp _root_.id fun h => List.lt_asymm (less_iff.1 h), fun e => absurd e hc.1⟩
    · rename_i hc
      by_cases ht0 : t = []
      · subst ht0
        have hb0 : b = [] := Classical.byContradiction fun hb => hc ⟨hb, .inl rfl⟩
        subst hb0
        exact .inl ⟨rfl, .inl rfl, fun _ => rfl⟩
      · by_cases hb0 : b = []
        · exact .inr ⟨rfl, ht0, ht.resolve_left ht0, .inl hb0⟩
        · have hbt : ¬ b < t := fun hlt => hc ⟨hb0, .inr (less_iff.2 hlt)⟩
          by_cases heq : b = t
          · subst heq
            exact .inl ⟨rfl, .inr (lt_irr _), fun e => absurd e hb0⟩
          · exact .inr ⟨rfl, ht0, ht.resolve_left ht0, .inr (ne_lt hbt heq)⟩
  -- what the page is drawn from
  have hq : (l.filter (pS f t)).filter (pS cur (endS b t)) = l.filter (pS cur (endS b t)) := by
    rw [List.filter_filter]
    refine List.filter_congr fun x _ => ?_
    cases hx : pS cur (endS b t) x with
    | false => simp
    | true =>
      obtain ⟨g1, g2⟩ := pS_iff.1 hx
      have : pS f t x = true := by
        refine pS_iff.2 ⟨le_tr hf g1, ?_⟩
        rcases hen with ⟨e, h2, h3⟩ | ⟨e, h2, _⟩
        · rw [e] at g2
          rcases h2 with h2 | h2
          · exact .inl h2
          · rcases g2 with g2 | g2
            · exact .inl (h3 g2)
            · exact .inr (lt_le g2 h2)
        · rw [e] at g2
          exact g2
      simp [this]
  have hcat : ∃ tail, l.filter (pS cur b) = l.filter (pS cur (endS b t)) ++ tail ∧ (endS b t = b → tail = []) ∧ (endS b t ≠ b → tail = l.filter (pS t b)) := by
    rcases hen with ⟨e, _⟩ | ⟨e, h2, h3, h4⟩
    · exact ⟨[], by rw [e]; simp, fun _ => rfl, fun h => absurd e h⟩
    · refine ⟨l.filter (pS t b), ?_, fun eb => ?_, fun _ => rfl⟩
      · rw [e]
        exact page_split h (List.lt_asymm h3) h2 (h4.imp _root_.id List.lt_asymm)
      · exfalso
        rw [e] at eb
        subst eb
        rcases h4 with h4 | h4
        · exact h2 h4
        · exact lt_irr _ h4
  obtain ⟨tail, hc1, hc2, hc3⟩ := hcat
  unfold pgNext at hnx
  unfold pgRecs at hrs
  rw [hq] at hnx hrs
  rcases Nat.lt_or_ge n (l.filter (pS cur (endS b t))).length with hlt | hge
  · -- the page is full
    obtain ⟨x, hx⟩ : ∃ x, (l.filter (pS cur (endS b t)))[n]? = some x := ⟨_, List.getElem?_eq_getElem hlt⟩
    rw [hx] at hnx
    have hxe : nx = x.1 := hnx
    have hx' : (l.filter (pS cur b))[n]? = some x := by rw [hc1, List.getElem?_append_left hlt]; exact hx
    have hxp := pS_iff.1 (List.mem_filter.1 (List.mem_of_getElem? hx')).2
    obtain ⟨y, hy⟩ : ∃ y, (l.filter (pS cur b))[0]? = some y := ⟨_, List.getElem?_eq_getElem (by rw [hc1, List.length_append]; omega)⟩
    have hyp := pS_iff.1 (List.mem_filter.1 (List.mem_of_getElem? hy)).2
    have hyx : y.1 < x.1 := by
      have a1 := List.getElem?_eq_some_iff.1 hy
      have a2 := List.getElem?_eq_some_iff.1 hx'
      have := List.pairwise_iff_getElem.1 (srt_filter h (pS cur b)) 0 n a1.1 a2.1 (by omega)
      rw [a1.2, a2.2] at this; exact this
    have hcx : cur < x.1 := le_lt hyp.1 hyx
    have hx0 : x.1 ≠ [] := fun e => nil_le cur (e ▸ hcx)
    have hpn := page_next h cur b n x hx'
    have hm1 : more = true := by
      rw [hmo, hxe]; unfold moreS
      rcases hxp.2 with e | e
      · simp [hx0, e]
      · simp [hx0, less_iff.2 e]
    refine .inr ⟨hm1, by rw [hxe]; exact hcx, by rw [hxe]; exact hxp.2, ?_, .inl ?_⟩
    · unfold recsS
      rw [hrs, hxe, hpn, ← List.map_append]
      congr 1
      have : (l.filter (pS cur (endS b t))).take n = (l.filter (pS cur b)).take n := by
        rw [hc1, List.take_append_of_le_length (by omega)]
      rw [this, List.take_append_drop]
    · rw [hxe, hpn, List.length_drop]
      have : n < (l.filter (pS cur b)).length := by rw [hc1, List.length_append]; omega
      omega
  · rw [List.getElem?_eq_none hge] at hnx
    rw [List.take_of_length_le hge] at hrs
    have hxe : nx = endS b t := hnx
    rcases hen with ⟨e, h2, h3⟩ | ⟨e, h2, h3, h4⟩
    · rw [e] at hxe hrs
      refine .inl ⟨?_, hxe, hrs⟩
      rw [hmo, hxe]; unfold moreS
      rw [less_no.2 (lt_irr b)]
      cases b <;> simp
    · have hne : endS b t ≠ b := by
        rw [e]; rintro rfl
        rcases h4 with h4 | h4
        · exact h2 h4
        · exact lt_irr _ h4
      have htl := hc3 hne
      rw [e] at hxe hrs hc1
      refine .inr ⟨?_, by rw [hxe]; exact h3, by rw [hxe]; exact h4, ?_, .inr ⟨hxe, h2⟩⟩
      · rw [hmo, hxe]; unfold moreS
        rcases h4 with h4 | h4
        · simp [h2, h4]
        · simp [h2, less_iff.2 h4]
      · unfold recsS
        rw [hrs, hxe, hc1, htl, List.map_append]
/-- Fewer of them. -/
theorem filter_less {α : Type} {p q : α → Bool} : ∀ {l : List α}, (∀ x ∈ l, p x = true → q x = true) → (l.filter p).length ≤ (l.filter q).length ∧ (∀ y ∈ l, q y = true → p y = false → (l.filter p).length < (l.filter q).length)
  | [], _ => ⟨Nat.le_refl _, fun y hy => by simp at hy⟩
  | x :: l, h => by
    obtain ⟨h1, h2⟩ := filter_less (l := l) fun y hy => h y (by simp [hy])
    have hx := h x (by simp)
    rw [List.filter_cons, List.filter_cons]
    refine ⟨?_, fun y hy hq hp => ?_⟩
    · cases hpx : p x with
      | true => rw [hx hpx]; simp only [if_true, List.length_cons]; omega
      | false =>
        simp only [Bool.false_eq_true, if_false]
        split
        · simp only [List.length_cons]; omega
        · exact h1
    · rcases List.mem_cons.1 hy with rfl | hy
      · rw [hp, hq]; simp only [Bool.false_eq_true, if_false, if_true, List.length_cons]; omega
      · have := h2 y hy hq hp
        cases hpx : p x with
        | true => rw [hx hpx]; simp only [if_true, List.length_cons]; omega
        | false =>
          simp only [Bool.false_eq_true, if_false]
          split
          · simp only [List.length_cons]; omega
          · exact this
/-- Parts that follow one another. -/
def chP : Bs → List Rec → Bs → Prop
  | a, [], c => a = c
  | a, p :: r, c => p.1 = a ∧ chP p.2 r c
theorem chP_snoc : ∀ {a : Bs} {ps : List Rec} {c d : Bs}, chP a ps c → chP a (ps ++ [(c, d)]) d
  | a, [], c, d, h => ⟨(show a = c from h).symm, rfl⟩
  | a, p :: r, c, d, ⟨h1, h2⟩ => ⟨h1, chP_snoc h2⟩
theorem chP_at : ∀ {a : Bs} {ps : List Rec} {c : Bs} {i : Nat} {x y : Rec}, chP a ps c → ps[i]? = some x → ps[i + 1]? = some y → y.1 = x.2
  | a, [], c, i, x, y, h, hx, hy => by simp at hx
  | a, [p], c, i, x, y, h, hx, hy => by simp at hy
  | a, p :: p' :: r, c, 0, x, y, ⟨h1, h2, h3⟩, hx, hy => by simp at hx hy; subst hx; subst hy; exact h2
  | a, p :: p' :: r, c, i + 1, x, y, ⟨h1, h2⟩, hx, hy => chP_at (ps := p' :: r) (i := i) h2 (by simpa using hx) (by simpa using hy)
theorem chP_first {a : Bs} {ps : List Rec} {c : Bs} {x : Rec} (h : chP a ps c) (hx : ps[0]? = some x) : x.1 = a := by
  cases ps with
  | nil => simp at hx
  | cons p r => simp at hx; subst hx; exact h.1
theorem chP_last : ∀ {a : Bs} {ps : List Rec} {c : Bs} {x : Rec}, chP a ps c → ps[ps.length - 1]? = some x → x.2 = c
  | a, [], c, x, h, hx => by simp at hx
  | a, [p], c, x, ⟨h1, h2⟩, hx => by simp at hx; subst hx; exact h2
  | a, p :: p' :: r, c, x, ⟨h1, h2⟩, hx => chP_last (ps := p' :: r) h2 (by simpa using hx)
end Go.Proofs.Ytmjnmnhpmbbmgaa.tour

/- One tour through a store of many spans. No condition. -/
set_option linter.unusedVariables false
set_option linter.unusedSimpArgs false
namespace Go.Proofs.Ytmjnmnhpmbbmgaa.tour
open Go.ChangeShapes Go.WideShapes Go.ChangeAt Go.RowKit Go.Gz Go.Gz.H
abbrev r10_0 : List MOper := [⟨(some 6), .box (.t 2), none⟩,
  ⟨(some 8), .move (.c (.bool false)), none⟩]
def b10_0 : SCode := .region r10_0
abbrev r10_1 : List MOper := [⟨(some 31), .move (.t 0), none⟩,
  ⟨(some 32), .lenSl (.t 31), none⟩,
  ⟨(some 33), .bin .gtr .num (.t 32) (.c (.int .i64 60)), none⟩,
  ⟨(some 34), .move (.t 33), none⟩,
  ⟨(some 35), .move (.t 1), (some (34, false))⟩,
  ⟨(some 36), .lenSl (.t 35), (some (34, false))⟩,
  ⟨(some 37), .bin .gtr .num (.t 36) (.c (.int .i64 8)), (some (34, false))⟩,
  ⟨(some 38), .pick (.t 34) (.c (.bool true)) (.t 37), none⟩,
  ⟨(some 39), .move (.t 38), none⟩,
  ⟨(some 40), .indexArrAddr 2 1 (.t 6) (.c (.int .i64 0)), (some (39, false))⟩,
  ⟨(some 41), .load1 (.t 40), (some (39, false))⟩,
  ⟨(some 42), .lenStr (.t 41), (some (39, false))⟩,
  ⟨(some 43), .bin .gtr .num (.t 42) (.c (.int .i64 300)), (some (39, false))⟩,
  ⟨(some 44), .pick (.t 39) (.c (.bool true)) (.t 43), none⟩,
  ⟨(some 45), .move (.t 44), none⟩,
  ⟨(some 46), .indexArrAddr 2 1 (.t 6) (.c (.int .i64 1)), (some (45, false))⟩,
  ⟨(some 47), .load1 (.t 46), (some (45, false))⟩,
  ⟨(some 48), .lenStr (.t 47), (some (45, false))⟩,
  ⟨(some 49), .bin .gtr .num (.t 48) (.c (.int .i64 300)), (some (45, false))⟩,
  ⟨(some 50), .pick (.t 45) (.c (.bool true)) (.t 49), none⟩]
def b10_1 : SCode := .region r10_1
abbrev r10_2 : List MOper := [⟨(some 51), .call 9 [], none⟩,
  ⟨(some 8), .move (.t 51), none⟩]
def b10_2 : SCode := .region r10_2
def b10_3 : SCode := .seq b10_2 .ret
def b10_4 : SCode := .cond (.t 50) b10_3 .skip
def b10_5 : SCode := .seq b10_1 b10_4
abbrev r10_6 : List MOper := [⟨(some 52), .call 17 [], none⟩,
  ⟨(some 53), .build [.nilslice, .nilslice, .int .i64 0, .bool false, .int .i64 0, .nilslice, .int .i64 0] [(0, 4, (.t 52)), (4, 1, (.c (.int .i64 1000)))], none⟩,
  ⟨(some 54), .box (.t 53), none⟩,
  ⟨(some 9), .move (.t 54), none⟩]
def b10_6 : SCode := .region r10_6
abbrev r10_7 : List MOper := [⟨(some 10), .move (.c (.str [])), none⟩]
def b10_7 : SCode := .region r10_7
abbrev r10_8 : List MOper := [⟨(some 11), .move (.c (.int .i64 0)), none⟩]
def b10_8 : SCode := .region r10_8
abbrev r10_9 : List MOper := [⟨(some 55), .move (.t 11), none⟩,
  ⟨(some 56), .move (.t 1), none⟩,
  ⟨(some 57), .lenSl (.t 56), none⟩,
  ⟨(some 58), .bin .leq .num (.t 55) (.t 57), none⟩]
def b10_9 : SCode := .region r10_9
def b10_10 : SCode := .cond (.t 58) .skip (.exit 0)
def b10_11 : SCode := .seq b10_9 b10_10
abbrev r10_12 : List MOper := [⟨(some 12), .move (.c (.str [])), none⟩]
def b10_12 : SCode := .region r10_12
abbrev r10_13 : List MOper := [⟨(some 61), .move (.t 11), none⟩,
  ⟨(some 62), .move (.t 1), none⟩,
  ⟨(some 63), .lenSl (.t 62), none⟩,
  ⟨(some 64), .bin .lss .num (.t 61) (.t 63), none⟩]
def b10_13 : SCode := .region r10_13
abbrev r10_14 : List MOper := [⟨(some 65), .move (.t 1), none⟩,
  ⟨(some 66), .move (.t 11), none⟩,
  ⟨(some 67), .indexAddr 1 (.t 65) (.t 66), none⟩,
  ⟨(some 68), .load1 (.t 67), none⟩,
  ⟨(some 12), .move (.t 68), none⟩]
def b10_14 : SCode := .region r10_14
abbrev r10_15 : List MOper := [⟨(some 69), .move (.t 12), none⟩,
  ⟨(some 70), .lenStr (.t 69), none⟩,
  ⟨(some 71), .bin .gtr .num (.t 70) (.c (.int .i64 300)), none⟩,
  ⟨(some 72), .move (.t 71), none⟩,
  ⟨(some 73), .move (.t 12), (some (72, false))⟩,
  ⟨(some 74), .move (.t 10), (some (72, false))⟩,
  ⟨(some 75), .bin .leq .num (.t 73) (.t 74), (some (72, false))⟩,
  ⟨(some 76), .pick (.t 72) (.c (.bool true)) (.t 75), none⟩]
def b10_15 : SCode := .region r10_15
abbrev r10_16 : List MOper := [⟨(some 77), .call 9 [], none⟩,
  ⟨(some 8), .move (.t 77), none⟩]
def b10_16 : SCode := .region r10_16
def b10_17 : SCode := .seq b10_16 .ret
def b10_18 : SCode := .cond (.t 76) b10_17 .skip
def b10_19 : SCode := .seq b10_15 b10_18
def b10_20 : SCode := .seq b10_14 b10_19
def b10_21 : SCode := .cond (.t 64) b10_20 .skip
def b10_22 : SCode := .seq b10_13 b10_21
abbrev r10_23 : List MOper := [⟨(some 78), .move (.t 9), none⟩,
  ⟨(some 79), .move (.t 10), none⟩,
  ⟨(some 80), .move (.t 12), none⟩,
  ⟨(some 81), .build [.str [], .str []] [(0, 1, (.t 79)), (1, 1, (.t 80))], none⟩,
  ⟨(some 82), .call 18 [(.t 78), (.t 81), (.c (.int .i64 1)), (.c (.nilslice)), (.c (.nilslice))], none⟩,
  ⟨(some 83), .bin .neq .num (.t 82) (.c (.int .i64 0)), none⟩]
def b10_23 : SCode := .region r10_23
abbrev r10_24 : List MOper := [⟨(some 8), .move (.c (.bool false)), none⟩]
def b10_24 : SCode := .region r10_24
def b10_25 : SCode := .seq b10_24 .ret
def b10_26 : SCode := .cond (.t 83) b10_25 .skip
def b10_27 : SCode := .seq b10_23 b10_26
abbrev r10_28 : List MOper := [⟨(some 84), .move (.t 12), none⟩,
  ⟨(some 10), .move (.t 84), none⟩]
def b10_28 : SCode := .region r10_28
def b10_29 : SCode := .seq b10_27 b10_28
def b10_30 : SCode := .seq b10_22 b10_29
def b10_31 : SCode := .seq b10_12 b10_30
def b10_32 : SCode := .block 1 b10_31
abbrev r10_33 : List MOper := [⟨(some 59), .move (.t 11), none⟩,
  ⟨(some 60), .bin .add .num (.t 59) (.c (.int .i64 1)), none⟩,
  ⟨(some 11), .move (.t 60), none⟩]
def b10_33 : SCode := .region r10_33
def b10_34 : SCode := .seq b10_32 b10_33
def b10_35 : SCode := .seq b10_11 b10_34
def b10_36 : SCode := .loop b10_35
def b10_37 : SCode := .block 0 b10_36
def b10_38 : SCode := .seq b10_8 b10_37
abbrev r10_39 : List MOper := [⟨(some 85), .build [.nilslice] [], none⟩,
  ⟨(some 13), .alloc [.nilslice], none⟩,
  ⟨none, .store 1 (.t 13) (.t 85), none⟩]
def b10_39 : SCode := .region r10_39
abbrev r10_40 : List MOper := [⟨(some 14), .move (.c (.int .i64 0)), none⟩]
def b10_40 : SCode := .region r10_40
abbrev r10_41 : List MOper := [⟨(some 86), .move (.t 14), none⟩,
  ⟨(some 87), .move (.t 0), none⟩,
  ⟨(some 88), .lenSl (.t 87), none⟩,
  ⟨(some 89), .bin .lss .num (.t 86) (.t 88), none⟩]
def b10_41 : SCode := .region r10_41
def b10_42 : SCode := .cond (.t 89) .skip (.exit 2)
def b10_43 : SCode := .seq b10_41 b10_42
abbrev t10_44 : LTree := (.quiet ⟨(some 94), .move (.t 0), none⟩ 1
  (.quiet ⟨(some 95), .move (.t 14), none⟩ 2
  (.quiet ⟨(some 96), .indexAddr 1 (.t 94) (.t 95), none⟩ 3
  (.quiet ⟨(some 97), .load1 (.t 96), none⟩ 4
  (.loud ⟨(some 93), .call 17 [], none⟩ [4]
  (.loud ⟨(some 98), .call 28 [(.t 93), (.t 97)], none⟩ []
  (.quiet ⟨(some 92), .move (.t 98), none⟩ 6
  (.quiet ⟨(some 99), .extract (.t 92) 0, none⟩ 7
  (.quiet ⟨(some 100), .extract (.t 92) 1, none⟩ 8
  (.quiet ⟨(some 15), .move (.t 99), none⟩ 9
  (.quiet ⟨(some 16), .move (.t 100), none⟩ 10
  .leaf))))) .stop) .stop)))))
def b10_44 : SCode := .draw t10_44
abbrev r10_45 : List MOper := [⟨(some 101), .move (.t 16), none⟩,
  ⟨(some 102), .bin .neq .num (.t 101) (.c (.int .i64 0)), none⟩,
  ⟨(some 103), .move (.t 102), none⟩,
  ⟨(some 104), .move (.t 0), (some (103, false))⟩,
  ⟨(some 105), .move (.t 14), (some (103, false))⟩,
  ⟨(some 106), .indexAddr 1 (.t 104) (.t 105), (some (103, false))⟩,
  ⟨(some 107), .load1 (.t 106), (some (103, false))⟩,
  ⟨(some 108), .lenStr (.t 107), (some (103, false))⟩,
  ⟨(some 109), .bin .gtr .num (.t 108) (.c (.int .i64 60)), (some (103, false))⟩,
  ⟨(some 110), .pick (.t 103) (.c (.bool true)) (.t 109), none⟩]
def b10_45 : SCode := .region r10_45
def b10_46 : SCode := .cond (.t 110) (.exit 3) .skip
def b10_47 : SCode := .seq b10_45 b10_46
abbrev r10_48 : List MOper := [⟨(some 111), .move (.t 9), none⟩,
  ⟨(some 112), .move (.t 14), none⟩,
  ⟨(some 113), .bin .add .num (.t 112) (.c (.int .i64 1)), none⟩,
  ⟨(some 114), .move (.t 0), none⟩,
  ⟨(some 115), .move (.t 14), none⟩,
  ⟨(some 116), .indexAddr 1 (.t 114) (.t 115), none⟩,
  ⟨(some 117), .load1 (.t 116), none⟩,
  ⟨(some 118), .build [.int .i64 0, .int .i64 0, .int .i64 0, .str [], .str [], .str [], .str [], .int .i64 0] [(0, 1, (.c (.int .i64 1))), (2, 1, (.t 113)), (3, 1, (.t 117))], none⟩,
  ⟨(some 119), .call 19 [(.t 111), (.t 118)], none⟩]
def b10_48 : SCode := .region r10_48
abbrev r10_49 : List MOper := [⟨(some 120), .move (.t 15), none⟩,
  ⟨(some 121), .move (.t 0), none⟩,
  ⟨(some 122), .move (.t 14), none⟩,
  ⟨(some 123), .indexAddr 1 (.t 121) (.t 122), none⟩,
  ⟨(some 124), .load1 (.t 123), none⟩,
  ⟨(some 125), .build [.str [], .str []] [(0, 1, (.t 124))], none⟩,
  ⟨(some 126), .call 29 [(.t 13), (.t 120), (.t 125)], none⟩]
def b10_49 : SCode := .region r10_49
def b10_50 : SCode := .seq b10_48 b10_49
def b10_51 : SCode := .seq b10_47 b10_50
def b10_52 : SCode := .seq b10_44 b10_51
def b10_53 : SCode := .block 3 b10_52
abbrev r10_54 : List MOper := [⟨(some 90), .move (.t 14), none⟩,
  ⟨(some 91), .bin .add .num (.t 90) (.c (.int .i64 1)), none⟩,
  ⟨(some 14), .move (.t 91), none⟩]
def b10_54 : SCode := .region r10_54
def b10_55 : SCode := .seq b10_53 b10_54
def b10_56 : SCode := .seq b10_43 b10_55
def b10_57 : SCode := .loop b10_56
def b10_58 : SCode := .block 2 b10_57
def b10_59 : SCode := .seq b10_40 b10_58
abbrev r10_60 : List MOper := [⟨(some 128), .indexArrAddr 2 1 (.t 6) (.c (.int .i64 0)), none⟩,
  ⟨(some 129), .load1 (.t 128), none⟩,
  ⟨(some 130), .indexArrAddr 2 1 (.t 6) (.c (.int .i64 1)), none⟩,
  ⟨(some 131), .load1 (.t 130), none⟩,
  ⟨(some 132), .move (.t 3), none⟩,
  ⟨(some 133), .call 11 [(.t 129), (.t 131), (.t 132)], none⟩,
  ⟨(some 127), .move (.t 133), none⟩,
  ⟨(some 134), .extract (.t 127) 0, none⟩,
  ⟨(some 135), .extract (.t 127) 1, none⟩,
  ⟨(some 17), .move (.t 134), none⟩,
  ⟨(some 18), .move (.t 135), none⟩]
def b10_60 : SCode := .region r10_60
abbrev r10_61 : List MOper := [⟨(some 136), .move (.t 18), none⟩,
  ⟨(some 137), .bin .neq .num (.t 136) (.c (.int .i64 0)), none⟩,
  ⟨(some 138), .move (.t 137), none⟩,
  ⟨(some 139), .move (.t 17), (some (138, false))⟩,
  ⟨(some 140), .bin .eql .nilp (.t 139) (.c (.nilptr)), (some (138, false))⟩,
  ⟨(some 141), .pick (.t 138) (.c (.bool true)) (.t 140), none⟩]
def b10_61 : SCode := .region r10_61
abbrev r10_62 : List MOper := [⟨(some 8), .move (.c (.bool false)), none⟩]
def b10_62 : SCode := .region r10_62
def b10_63 : SCode := .seq b10_62 .ret
def b10_64 : SCode := .cond (.t 141) b10_63 .skip
def b10_65 : SCode := .seq b10_61 b10_64
abbrev r10_66 : List MOper := [⟨(some 19), .move (.c (.int .i64 0)), none⟩]
def b10_66 : SCode := .region r10_66
abbrev r10_67 : List MOper := [⟨(some 142), .move (.t 19), none⟩,
  ⟨(some 143), .bin .lss .num (.t 142) (.c (.int .i64 200)), none⟩]
def b10_67 : SCode := .region r10_67
def b10_68 : SCode := .cond (.t 143) .skip (.exit 4)
def b10_69 : SCode := .seq b10_67 b10_68
abbrev r10_70 : List MOper := [⟨(some 147), .move (.t 17), none⟩,
  ⟨(some 148), .call 12 [(.t 147)], none⟩,
  ⟨(some 146), .move (.t 148), none⟩,
  ⟨(some 149), .extract (.t 146) 0, none⟩,
  ⟨(some 150), .extract (.t 146) 1, none⟩,
  ⟨(some 151), .extract (.t 146) 2, none⟩,
  ⟨(some 152), .extract (.t 146) 3, none⟩,
  ⟨(some 20), .move (.t 149), none⟩,
  ⟨(some 21), .move (.t 150), none⟩,
  ⟨(some 22), .move (.t 151), none⟩,
  ⟨(some 23), .move (.t 152), none⟩]
def b10_70 : SCode := .region r10_70
abbrev r10_71 : List MOper := [⟨(some 153), .move (.t 23), none⟩,
  ⟨(some 154), .un .not (.t 153), none⟩]
def b10_71 : SCode := .region r10_71
def b10_72 : SCode := .cond (.t 154) (.exit 4) .skip
def b10_73 : SCode := .seq b10_71 b10_72
abbrev r10_74 : List MOper := [⟨(some 156), .move (.t 9), none⟩,
  ⟨(some 157), .move (.t 20), none⟩,
  ⟨(some 158), .move (.t 21), none⟩,
  ⟨(some 159), .move (.t 22), none⟩,
  ⟨(some 160), .build [.int .i64 0, .int .i64 0, .int .i64 0, .str [], .str [], .str [], .str [], .int .i64 0] [(0, 1, (.c (.int .i64 4))), (5, 1, (.t 157)), (6, 1, (.t 158)), (7, 1, (.t 159))], none⟩,
  ⟨(some 161), .call 19 [(.t 156), (.t 160)], none⟩,
  ⟨(some 155), .move (.t 161), none⟩,
  ⟨(some 162), .extract (.t 155) 0, none⟩,
  ⟨(some 163), .extract (.t 155) 1, none⟩,
  ⟨(some 24), .alloc [.int .i64 0, .int .i64 0, .int .i64 0, .bool false, .str [], .nilslice, .str [], .bool false], none⟩,
  ⟨none, .store 8 (.t 24) (.t 162), none⟩,
  ⟨(some 25), .move (.t 163), none⟩]
def b10_74 : SCode := .region r10_74
abbrev r10_75 : List MOper := [⟨(some 164), .move (.t 17), none⟩,
  ⟨(some 165), .loadN 8 (.t 24), none⟩,
  ⟨(some 166), .call 14 [(.t 164), (.t 165)], none⟩,
  ⟨(some 167), .bin .neq .num (.t 166) (.c (.int .i64 0)), none⟩]
def b10_75 : SCode := .region r10_75
abbrev r10_76 : List MOper := [⟨(some 8), .move (.c (.bool false)), none⟩]
def b10_76 : SCode := .region r10_76
def b10_77 : SCode := .seq b10_76 .ret
def b10_78 : SCode := .cond (.t 167) b10_77 .skip
def b10_79 : SCode := .seq b10_75 b10_78
def b10_80 : SCode := .seq b10_74 b10_79
def b10_81 : SCode := .seq b10_73 b10_80
def b10_82 : SCode := .seq b10_70 b10_81
def b10_83 : SCode := .block 5 b10_82
abbrev r10_84 : List MOper := [⟨(some 144), .move (.t 19), none⟩,
  ⟨(some 145), .bin .add .num (.t 144) (.c (.int .i64 1)), none⟩,
  ⟨(some 19), .move (.t 145), none⟩]
def b10_84 : SCode := .region r10_84
def b10_85 : SCode := .seq b10_83 b10_84
def b10_86 : SCode := .seq b10_69 b10_85
def b10_87 : SCode := .loop b10_86
def b10_88 : SCode := .block 4 b10_87
def b10_89 : SCode := .seq b10_66 b10_88
abbrev r10_90 : List MOper := [⟨(some 26), .move (.c (.nilslice)), none⟩]
def b10_90 : SCode := .region r10_90
abbrev r10_91 : List MOper := [⟨(some 27), .move (.c (.int .i64 0)), none⟩]
def b10_91 : SCode := .region r10_91
abbrev r10_92 : List MOper := [⟨(some 168), .move (.t 27), none⟩,
  ⟨(some 169), .fieldAddr 0 (.t 13), none⟩,
  ⟨(some 170), .load1 (.t 169), none⟩,
  ⟨(some 171), .lenSl (.t 170), none⟩,
  ⟨(some 172), .bin .lss .num (.t 168) (.t 171), none⟩]
def b10_92 : SCode := .region r10_92
def b10_93 : SCode := .cond (.t 172) .skip (.exit 6)
def b10_94 : SCode := .seq b10_92 b10_93
abbrev r10_95 : List MOper := [⟨(some 175), .fieldAddr 0 (.t 13), none⟩,
  ⟨(some 176), .load1 (.t 175), none⟩,
  ⟨(some 177), .move (.t 27), none⟩,
  ⟨(some 178), .indexAddr 3 (.t 176) (.t 177), none⟩,
  ⟨(some 179), .fieldAddr 0 (.t 178), none⟩,
  ⟨(some 180), .load1 (.t 179), none⟩,
  ⟨(some 28), .move (.t 180), none⟩]
def b10_95 : SCode := .region r10_95
abbrev r10_96 : List MOper := [⟨(some 181), .move (.t 28), none⟩,
  ⟨(some 182), .indexArrAddr 2 1 (.t 6) (.c (.int .i64 0)), none⟩,
  ⟨(some 183), .load1 (.t 182), none⟩,
  ⟨(some 184), .bin .geq .num (.t 181) (.t 183), none⟩,
  ⟨(some 185), .move (.t 184), none⟩,
  ⟨(some 186), .move (.t 28), (some (185, true))⟩,
  ⟨(some 187), .indexArrAddr 2 1 (.t 6) (.c (.int .i64 1)), (some (185, true))⟩,
  ⟨(some 188), .load1 (.t 187), (some (185, true))⟩,
  ⟨(some 189), .bin .lss .num (.t 186) (.t 188), (some (185, true))⟩,
  ⟨(some 190), .move (.t 189), (some (185, true))⟩,
  ⟨(some 191), .indexArrAddr 2 1 (.t 6) (.c (.int .i64 1)), (some (190, false))⟩,
  ⟨(some 192), .load1 (.t 191), (some (190, false))⟩,
  ⟨(some 193), .bin .eql .num (.t 192) (.c (.str [])), (some (190, false))⟩,
  ⟨(some 194), .pick (.t 190) (.c (.bool true)) (.t 193), (some (185, true))⟩,
  ⟨(some 195), .pick (.t 185) (.t 194) (.c (.bool false)), none⟩]
def b10_96 : SCode := .region r10_96
abbrev r10_97 : List MOper := [⟨(some 196), .move (.t 26), none⟩,
  ⟨(some 197), .fieldAddr 0 (.t 13), none⟩,
  ⟨(some 198), .load1 (.t 197), none⟩,
  ⟨(some 199), .move (.t 27), none⟩,
  ⟨(some 200), .indexAddr 3 (.t 198) (.t 199), none⟩,
  ⟨(some 201), .fieldAddr 1 (.t 200), none⟩,
  ⟨(some 202), .loadN 2 (.t 201), none⟩,
  ⟨(some 203), .buildSlice [.str [], .str []] 2 1 [(0, 2, (.t 202))], none⟩,
  ⟨(some 204), .append 2 32 (.t 196) (.t 203), none⟩,
  ⟨(some 26), .move (.t 204), none⟩]
def b10_97 : SCode := .region r10_97
def b10_98 : SCode := .cond (.t 195) b10_97 .skip
def b10_99 : SCode := .seq b10_96 b10_98
def b10_100 : SCode := .seq b10_95 b10_99
def b10_101 : SCode := .block 7 b10_100
abbrev r10_102 : List MOper := [⟨(some 173), .move (.t 27), none⟩,
  ⟨(some 174), .bin .add .num (.t 173) (.c (.int .i64 1)), none⟩,
  ⟨(some 27), .move (.t 174), none⟩]
def b10_102 : SCode := .region r10_102
def b10_103 : SCode := .seq b10_101 b10_102
def b10_104 : SCode := .seq b10_94 b10_103
def b10_105 : SCode := .loop b10_104
def b10_106 : SCode := .block 6 b10_105
def b10_107 : SCode := .seq b10_91 b10_106
abbrev r10_108 : List MOper := [⟨(some 205), .move (.t 17), none⟩,
  ⟨(some 206), .call 16 [(.t 205)], none⟩,
  ⟨(some 29), .move (.t 206), none⟩]
def b10_108 : SCode := .region r10_108
abbrev r10_109 : List MOper := [⟨(some 30), .move (.c (.int .i64 1)), none⟩]
def b10_109 : SCode := .region r10_109
abbrev r10_110 : List MOper := [⟨(some 207), .move (.t 30), none⟩,
  ⟨(some 208), .move (.t 29), none⟩,
  ⟨(some 209), .lenSl (.t 208), none⟩,
  ⟨(some 210), .bin .lss .num (.t 207) (.t 209), none⟩]
def b10_110 : SCode := .region r10_110
def b10_111 : SCode := .cond (.t 210) .skip (.exit 8)
def b10_112 : SCode := .seq b10_110 b10_111
abbrev t10_113 : LTree := (.quiet ⟨(some 213), .move (.t 29), none⟩ 0
  (.quiet ⟨(some 214), .move (.t 30), none⟩ 1
  (.quiet ⟨(some 215), .indexAddr 2 (.t 213) (.t 214), none⟩ 2
  (.quiet ⟨(some 216), .fieldAddr 0 (.t 215), none⟩ 3
  (.quiet ⟨(some 217), .load1 (.t 216), none⟩ 4
  (.quiet ⟨(some 218), .move (.t 29), none⟩ 5
  (.quiet ⟨(some 219), .move (.t 30), none⟩ 6
  (.quiet ⟨(some 220), .bin .sub .num (.t 219) (.c (.int .i64 1)), none⟩ 7
  (.quiet ⟨(some 221), .indexAddr 2 (.t 218) (.t 220), none⟩ 8
  (.quiet ⟨(some 222), .fieldAddr 1 (.t 221), none⟩ 9
  (.quiet ⟨(some 223), .load1 (.t 222), none⟩ 10
  (.quiet ⟨(some 224), .bin .neq .num (.t 217) (.t 223), none⟩ 11
  .leaf))))))))))))
def b10_113 : SCode := .draw t10_113
abbrev r10_114 : List MOper := [⟨(some 8), .move (.c (.bool false)), none⟩]
def b10_114 : SCode := .region r10_114
def b10_115 : SCode := .seq b10_114 .ret
def b10_116 : SCode := .cond (.t 224) b10_115 .skip
def b10_117 : SCode := .seq b10_113 b10_116
def b10_118 : SCode := .block 9 b10_117
abbrev r10_119 : List MOper := [⟨(some 211), .move (.t 30), none⟩,
  ⟨(some 212), .bin .add .num (.t 211) (.c (.int .i64 1)), none⟩,
  ⟨(some 30), .move (.t 212), none⟩]
def b10_119 : SCode := .region r10_119
def b10_120 : SCode := .seq b10_118 b10_119
def b10_121 : SCode := .seq b10_112 b10_120
def b10_122 : SCode := .loop b10_121
def b10_123 : SCode := .block 8 b10_122
def b10_124 : SCode := .seq b10_109 b10_123
abbrev t10_125 : LTree := (.loud ⟨(some 225), .call 9 [], none⟩ []
  (.quiet ⟨(some 226), .move (.t 225), none⟩ 1
  (.quiet ⟨(some 227), .move (.t 17), (some (226, true))⟩ 2
  (.loud ⟨(some 228), .call 13 [(.t 227)], (some (226, true))⟩ []
  (.quiet ⟨(some 229), .pick (.t 226) (.t 228) (.c (.bool false)), none⟩ 4
  (.quiet ⟨(some 230), .move (.t 229), none⟩ 5
  (.quiet ⟨(some 231), .move (.t 17), (some (230, true))⟩ 6
  (.quiet ⟨(some 233), .move (.t 26), (some (230, true))⟩ 8
  (.loud ⟨(some 232), .call 15 [(.t 231)], (some (230, true))⟩ []
  (.loud ⟨(some 234), .call 20 [(.t 232), (.t 233)], (some (230, true))⟩ []
  (.quiet ⟨(some 235), .pick (.t 230) (.t 234) (.c (.bool false)), none⟩ 10
  (.quiet ⟨(some 236), .move (.t 235), none⟩ 11
  (.quiet ⟨(some 237), .move (.t 29), (some (236, true))⟩ 12
  (.quiet ⟨(some 238), .lenSl (.t 237), (some (236, true))⟩ 13
  (.quiet ⟨(some 239), .bin .eql .num (.t 238) (.c (.int .i64 0)), (some (236, true))⟩ 14
  (.quiet ⟨(some 240), .move (.t 239), (some (236, true))⟩ 15
  (.quiet ⟨(some 241), .move (.t 29), (some (240, false))⟩ 16
  (.quiet ⟨(some 242), .indexAddr 2 (.t 241) (.c (.int .i64 0)), (some (240, false))⟩ 17
  (.quiet ⟨(some 243), .fieldAddr 0 (.t 242), (some (240, false))⟩ 18
  (.quiet ⟨(some 244), .load1 (.t 243), (some (240, false))⟩ 19
  (.quiet ⟨(some 245), .indexArrAddr 2 1 (.t 6) (.c (.int .i64 0)), (some (240, false))⟩ 20
  (.quiet ⟨(some 246), .load1 (.t 245), (some (240, false))⟩ 21
  (.quiet ⟨(some 247), .bin .eql .num (.t 244) (.t 246), (some (240, false))⟩ 22
  (.quiet ⟨(some 248), .move (.t 247), (some (240, false))⟩ 23
  (.quiet ⟨(some 249), .move (.t 29), (some (248, true))⟩ 24
  (.quiet ⟨(some 250), .move (.t 29), (some (248, true))⟩ 25
  (.quiet ⟨(some 251), .lenSl (.t 250), (some (248, true))⟩ 26
  (.quiet ⟨(some 252), .bin .sub .num (.t 251) (.c (.int .i64 1)), (some (248, true))⟩ 27
  (.quiet ⟨(some 253), .indexAddr 2 (.t 249) (.t 252), (some (248, true))⟩ 28
  (.quiet ⟨(some 254), .fieldAddr 1 (.t 253), (some (248, true))⟩ 29
  (.quiet ⟨(some 255), .load1 (.t 254), (some (248, true))⟩ 30
  (.quiet ⟨(some 256), .indexArrAddr 2 1 (.t 6) (.c (.int .i64 1)), (some (248, true))⟩ 31
  (.quiet ⟨(some 257), .load1 (.t 256), (some (248, true))⟩ 32
  (.quiet ⟨(some 258), .bin .eql .num (.t 255) (.t 257), (some (248, true))⟩ 33
  (.quiet ⟨(some 259), .pick (.t 248) (.t 258) (.c (.bool false)), (some (240, false))⟩ 34
  (.quiet ⟨(some 260), .pick (.t 240) (.c (.bool true)) (.t 259), (some (236, true))⟩ 35
  (.quiet ⟨(some 261), .pick (.t 236) (.t 260) (.c (.bool false)), none⟩ 36
  (.quiet ⟨(some 8), .move (.t 261), none⟩ 37
  .leaf)))))))))))))))))))))))))))) .stop) .stop))))) .stop))) .stop)
def b10_125 : SCode := .draw t10_125
def b10_126 : SCode := .seq b10_125 .ret
def b10_127 : SCode := .seq b10_124 b10_126
def b10_128 : SCode := .seq b10_108 b10_127
def b10_129 : SCode := .seq b10_107 b10_128
def b10_130 : SCode := .seq b10_90 b10_129
def b10_131 : SCode := .seq b10_89 b10_130
def b10_132 : SCode := .seq b10_65 b10_131
def b10_133 : SCode := .seq b10_60 b10_132
def b10_134 : SCode := .seq b10_59 b10_133
def b10_135 : SCode := .seq b10_39 b10_134
def b10_136 : SCode := .seq b10_38 b10_135
def b10_137 : SCode := .seq b10_7 b10_136
def b10_138 : SCode := .seq b10_6 b10_137
def b10_139 : SCode := .seq b10_5 b10_138
def b10_140 : SCode := .seq b10_0 b10_139
def s10 : SFunc := ⟨262, [.t 8], b10_140⟩
theorem c10 : sFn Try.prog 10 = some s10 := by kernel_rfl
theorem x10_29 : XS b10_29 b10_27 b10_28 := rfl
theorem Z10 : XR b10_0 r10_0 ∧ XR b10_1 r10_1 ∧ XR b10_2 r10_2 ∧ XS b10_3 b10_2 .ret ∧ XC b10_4 (.t 50) b10_3 .skip ∧ XS b10_5 b10_1 b10_4 ∧ XR b10_6 r10_6 ∧ XR b10_7 r10_7 ∧ XR b10_8 r10_8 ∧ XR b10_9 r10_9 ∧ XC b10_10 (.t 58) .skip (.exit 0) ∧ XS b10_11 b10_9 b10_10 ∧ XR b10_12 r10_12 ∧ XR b10_13 r10_13 ∧ XR b10_14 r10_14 ∧ XR b10_15 r10_15 ∧ XR b10_16 r10_16 ∧ XS b10_17 b10_16 .ret ∧ XC b10_18 (.t 76) b10_17 .skip ∧ XS b10_19 b10_15 b10_18 ∧ XS b10_20 b10_14 b10_19 ∧ XC b10_21 (.t 64) b10_20 .skip ∧ XS b10_22 b10_13 b10_21 ∧ XR b10_23 r10_23 ∧ XR b10_24 r10_24 ∧ XS b10_25 b10_24 .ret ∧ XC b10_26 (.t 83) b10_25 .skip ∧ XS b10_27 b10_23 b10_26 ∧ XR b10_28 r10_28 ∧ XS b10_30 b10_22 b10_29 ∧ XS b10_31 b10_12 b10_30 ∧ XB b10_32 1 b10_31 ∧ XR b10_33 r10_33 ∧ XS b10_34 b10_32 b10_33 ∧ XS b10_35 b10_11 b10_34 ∧ XB b10_37 0 b10_36 ∧ XS b10_38 b10_8 b10_37 ∧ XR b10_39 r10_39 ∧ XR b10_40 r10_40 ∧ XR b10_41 r10_41 ∧ XC b10_42 (.t 89) .skip (.exit 2) ∧ XS b10_43 b10_41 b10_42 ∧ XT b10_44 t10_44 ∧ XR b10_45 r10_45 ∧ XC b10_46 (.t 110) (.exit 3) .skip ∧ XS b10_47 b10_45 b10_46 ∧ XR b10_48 r10_48 ∧ XR b10_49 r10_49 ∧ XS b10_50 b10_48 b10_49 ∧ XS b10_51 b10_47 b10_50 ∧ XS b10_52 b10_44 b10_51 ∧ XB b10_53 3 b10_52 ∧ XR b10_54 r10_54 ∧ XS b10_55 b10_53 b10_54 ∧ XS b10_56 b10_43 b10_55 ∧ XB b10_58 2 b10_57 ∧ XS b10_59 b10_40 b10_58 ∧ XR b10_60 r10_60 ∧ XR b10_61 r10_61 ∧ XR b10_62 r10_62 ∧ XS b10_63 b10_62 .ret ∧ XC b10_64 (.t 141) b10_63 .skip ∧ XS b10_65 b10_61 b10_64 ∧ XR b10_66 r10_66 ∧ XR b10_67 r10_67 ∧ XC b10_68 (.t 143) .skip (.exit 4) ∧ XS b10_69 b10_67 b10_68 ∧ XR b10_70 r10_70 ∧ XR b10_71 r10_71 ∧ XC b10_72 (.t 154) (.exit 4) .skip ∧ XS b10_73 b10_71 b10_72 ∧ XR b10_74 r10_74 ∧ XR b10_75 r10_75 ∧ XR b10_76 r10_76 ∧ XS b10_77 b10_76 .ret ∧ XC b10_78 (.t 167) b10_77 .skip ∧ XS b10_79 b10_75 b10_78 ∧ XS b10_80 b10_74 b10_79 ∧ XS b10_81 b10_73 b10_80 ∧ XS b10_82 b10_70 b10_81 ∧ XB b10_83 5 b10_82 ∧ XR b10_84 r10_84 ∧ XS b10_85 b10_83 b10_84 ∧ XS b10_86 b10_69 b10_85 ∧ XB b10_88 4 b10_87 ∧ XS b10_89 b10_66 b10_88 ∧ XR b10_90 r10_90 ∧ XR b10_91 r10_91 ∧ XR b10_92 r10_92 ∧ XC b10_93 (.t 172) .skip (.exit 6) ∧ XS b10_94 b10_92 b10_93 ∧ XR b10_95 r10_95 ∧ XR b10_96 r10_96 ∧ XR b10_97 r10_97 ∧ XC b10_98 (.t 195) b10_97 .skip ∧ XS b10_99 b10_96 b10_98 ∧ XS b10_100 b10_95 b10_99 ∧ XB b10_101 7 b10_100 ∧ XR b10_102 r10_102 ∧ XS b10_103 b10_101 b10_102 ∧ XS b10_104 b10_94 b10_103 ∧ XB b10_106 6 b10_105 ∧ XS b10_107 b10_91 b10_106 ∧ XR b10_108 r10_108 ∧ XR b10_109 r10_109 ∧ XR b10_110 r10_110 ∧ XC b10_111 (.t 210) .skip (.exit 8) ∧ XS b10_112 b10_110 b10_111 ∧ XT b10_113 t10_113 ∧ XR b10_114 r10_114 ∧ XS b10_115 b10_114 .ret ∧ XC b10_116 (.t 224) b10_115 .skip ∧ XS b10_117 b10_113 b10_116 ∧ XB b10_118 9 b10_117 ∧ XR b10_119 r10_119 ∧ XS b10_120 b10_118 b10_119 ∧ XS b10_121 b10_112 b10_120 ∧ XB b10_123 8 b10_122 ∧ XS b10_124 b10_109 b10_123 ∧ XT b10_125 t10_125 ∧ XS b10_126 b10_125 .ret ∧ XS b10_127 b10_124 b10_126 ∧ XS b10_128 b10_108 b10_127 ∧ XS b10_129 b10_107 b10_128 ∧ XS b10_130 b10_90 b10_129 ∧ XS b10_131 b10_89 b10_130 ∧ XS b10_132 b10_65 b10_131 ∧ XS b10_133 b10_60 b10_132 ∧ XS b10_134 b10_59 b10_133 ∧ XS b10_135 b10_39 b10_134 ∧ XS b10_136 b10_38 b10_135 ∧ XS b10_137 b10_7 b10_136 ∧ XS b10_138 b10_6 b10_137 ∧ XS b10_139 b10_5 b10_138 ∧ XS b10_140 b10_0 b10_139 ∧ XY s10 262 b10_140 [.t 8] := ⟨rfl, rfl, rfl, rfl, sC_cond, rfl, rfl, rfl, rfl, rfl, sC_cond, rfl, rfl, rfl, rfl, rfl, rfl, rfl, sC_cond, rfl, rfl, sC_cond, rfl, rfl, rfl, rfl, sC_cond, rfl, rfl, rfl, rfl, rfl, rfl, rfl, rfl, rfl, rfl, rfl, rfl, rfl, sC_cond, rfl, rfl, rfl, sC_cond, rfl, rfl, rfl, rfl, rfl, rfl, rfl, rfl, rfl, rfl, rfl, rfl, rfl, rfl, rfl, rfl, sC_cond, rfl, rfl, rfl, sC_cond, rfl, rfl, rfl, sC_cond, rfl, rfl, rfl, rfl, rfl, sC_cond, rfl, rfl, rfl, rfl, rfl, rfl, rfl, rfl, rfl, rfl, rfl, rfl, rfl, sC_cond, rfl, rfl, rfl, rfl, sC_cond, rfl, rfl, rfl, rfl, rfl, rfl, rfl, rfl, rfl, rfl, rfl, sC_cond, rfl, rfl, rfl, rfl, sC_cond, rfl, rfl, rfl, rfl, rfl, rfl, rfl, rfl, rfl, rfl, rfl, rfl, rfl, rfl, rfl, rfl, rfl, rfl, rfl, rfl, rfl, rfl, rfl, rfl⟩

set_option maxHeartbeats 4000000
set_option maxRecDepth 10000
def U10 : PCall := rowQ 9 awakeD (rowQ 17 tableD (rowQ 18 holdD (rowQ 19 doD (rowQ 28 makeD (rowQ 29 putD' (rowQ 11 tnewD (rowQ 12 tnextD (rowQ 13 toverD (rowQ 14 ttakeD (rowQ 15 trecsD (rowQ 16 tspansD (rowQ 20 recsD noCall))))))))))))
theorem U10_app {f : FuncId} {args : List AV} {σ : AHeap} {K : AV → AHeap → Prop} : U10 f args σ K = rowQ 9 awakeD (rowQ 17 tableD (rowQ 18 holdD (rowQ 19 doD (rowQ 28 makeD (rowQ 29 putD' (rowQ 11 tnewD (rowQ 12 tnextD (rowQ 13 toverD (rowQ 14 ttakeD (rowQ 15 trecsD (rowQ 16 tspansD (rowQ 20 recsD noCall)))))))))))) f args σ K := _root_.id rfl
theorem U10_sound : Sound Try.prog U10 := rowQ_sound awakeD_ok (rowQ_sound tableD_ok (rowQ_sound holdD_ok (rowQ_sound doD_ok (rowQ_sound makeD_ok (rowQ_sound putD_ok (rowQ_sound tnewD_ok (rowQ_sound tnextD_ok (rowQ_sound toverD_ok (rowQ_sound ttakeD_ok (rowQ_sound trecsD_ok (rowQ_sound tspansD_ok (rowQ_sound recsD_ok (noCall_sound _)))))))))))))
theorem hs_iff {f t key : Bs} : hsS f t key = true ↔ ¬ key < f ∧ (t = [] ∨ key < t) := by
  unfold hsS
  rw [Bool.and_eq_true, Bool.or_eq_true, decide_eq_true_eq, less_iff, Bool.not_eq_true', less_no, or_comm]
theorem hs_pS {f t key : Bs} {r : Bs × Bs} : pS f t (key, r) = hsS f t key := by
  cases h : hsS f t key with
  | true => exact pS_iff.2 (hs_iff.1 h)
  | false =>
    cases h' : pS f t (key, r) with
    | true => exact absurd (hs_iff.2 (pS_iff.1 h')) (by rw [h]; simp)
    | false => rfl
theorem last_spec {hs : List HD} {key : Bs} : ∀ {k : Nat} {i : Nat}, lastI hs key k = (i : Int) → ∃ h, hs[i]? = some h ∧ hsS h.f h.t key = true
  | 0, i, h => by simp [lastI] at h
  | k + 1, i, h => by
    unfold lastI at h
    split at h
    · rename_i x hx
      split at h
      · rename_i hh
        have : k = i := by omega
        subst this
        exact ⟨x, hx, hh⟩
      · exact last_spec h
    · exact last_spec h
theorem last_pos {hs : List HD} {key : Bs} {i : Nat} {x : HD} (hx : hs[i]? = some x) (hh : hsS x.f x.t key = true) : ∀ {k : Nat}, i < k → (0 : Int) ≤ lastI hs key k
  | 0, h => by omega
  | k + 1, h => by
    unfold lastI
    split
    · rename_i y hy
      split
      · omega
      · rename_i hn
        by_cases hik : i = k
        · subst hik; rw [hx] at hy; cases hy; exact absurd hh hn
        · exact last_pos hx hh (by omega)
    · rename_i hy
      by_cases hik : i = k
      · subst hik; rw [hx] at hy; cases hy
      · exact last_pos hx hh (by omega)
def nuS (hs : List HD) (cur : Bs) : Nat := (hs.filter fun h => decide (h.t ≠ []) && lessBytes cur h.t).length
theorem nu_le {hs : List HD} {cur : Bs} : nuS hs cur ≤ hs.length := List.length_filter_le _ _
theorem nu_mono {hs : List HD} {cur nx : Bs} (h : cur < nx) : nuS hs nx ≤ nuS hs cur ∧ ∀ x ∈ hs, nx = x.t → x.t ≠ [] → nuS hs nx < nuS hs cur := by
  obtain ⟨h1, h2⟩ := filter_less (p := fun h : HD => decide (h.t ≠ []) && lessBytes nx h.t) (q := fun h : HD => decide (h.t ≠ []) && lessBytes cur h.t) (l := hs) fun x _ hx => by
    simp only [Bool.and_eq_true, decide_eq_true_eq, less_iff] at hx ⊢
    exact ⟨hx.1, lt_tr h hx.2⟩
  refine ⟨h1, fun x hx e hn => h2 x hx ?_ ?_⟩
  · simp only [Bool.and_eq_true, decide_eq_true_eq, less_iff]
    exact ⟨hn, e ▸ h⟩
  · simp only [Bool.and_eq_false_iff]
    exact .inr (less_no.2 (e ▸ lt_irr _))
theorem emT_no {a b : Bs} (h : emT a b = false) : b = [] ∨ a < b := by
  unfold emT at h
  by_cases hb : b = []
  · exact .inl hb
  · right
    simp only [decide_not, Bool.and_eq_false_iff, Bool.not_eq_false', decide_eq_true_eq, hb, false_or, Bool.or_eq_false_iff, less_no] at h
    exact ne_lt h.1 (by simpa using h.2)
/-- The store that is gone through: what lies in its spans. -/
structure Cut (all : List Rw) (hs : List HD) : Prop where
  srt : Srt all
  row : ∀ h ∈ hs, h.rows = all.filter (pS h.f h.t)
  cov : ∀ key, ∃ (i : Nat) (h : HD), hs[i]? = some h ∧ hsS h.f h.t key = true
  len : all.length ≤ 60
  num : hs.length ≤ 9
def goE (B S A T : Nat) (e : Env) : Prop := e 6 = .ptr B 0 ∧ e 9 = .ptr S 0 ∧ e 13 = .ptr A 0 ∧ e 17 = .ptr T 0
def gtI (σ1 : AHeap) (B S A T n : Nat) (a b : Bs) (all : List Rw) (hs : List HD) (m : Nat) (e : Env) (σ : AHeap) : Prop :=
  ∃ (cur : Bs) (ov : Bool) (Lt Pt : AV) (rs ps : List Rec), m = 200 - ps.length ∧ goE B S A T e ∧ e 19 = .int .i64 (ps.length : Int) ∧ Kp σ1 σ ∧ TourAt σ T cur b n ov Lt rs Pt ps ∧ (∀ j c, hget σ1 j = some c → ¬ OwnT T Lt Pt j) ∧ chP a ps cur ∧ ps.length ≤ 100 ∧ rs.length ≤ 60 ∧
    (ov = true → rs = recsS all a b ∧ (ps = [] ∨ cur = b)) ∧ (ov = false → (b = [] ∨ cur < b) ∧ rs ++ recsS all cur b = recsS all a b ∧ ps.length + (all.filter (pS cur b)).length + nuS hs cur + 1 ≤ 100)
theorem go_inner {n0 B S A T n : Nat} {Lv : AV} {hs : List HD} {all : List Rw} {a b : Bs} {R : MExit → Env → AHeap → Prop} {k : Cont} {e : Env} {σ1 σ : AHeap}
    (hn : 1 ≤ n) (hn16 : n ≤ 16) (hS1 : StoreAt σ1 S Lv hs) (hC : Cut all hs) (hE : goE B S A T e) (e19 : e 19 = .int .i64 0)
    (hk : Kp σ1 σ) (hT : TourAt σ T a b n (emT a b) .nilslice [] .nilslice []) (hTf : ∀ j c, hget σ1 j = some c → T ≠ j)
    (hK : ∀ e' σ' cur Lt Pt ps, goE B S A T e' → Kp σ1 σ' → TourAt σ' T cur b n true Lt (recsS all a b) Pt ps → chP a ps cur → (ps = [] ∨ cur = b) → ps.length ≤ 100 → unw U10 n0 R k (.exit 4) e' σ') :
    sC U10 n0 b10_87 (unw U10 n0 R k) e σ := by
  have hE0 := hE
  obtain ⟨e6, e9, e13, e17⟩ := hE
  refine sC_inv (a := b10_86) (gtI σ1 B S A T n a b all hs) 200 _ _ (.refl _ _ _) ⟨a, emT a b, _, _, [], [], rfl, hE0, e19, hk, hT, fun j c hj ho => ?_, rfl, by simp, by simp, fun hv => ⟨?_, .inl rfl⟩, fun hv => ⟨emT_no hv, rfl, ?_⟩⟩ ?_
  · rcases ho with e | e | e
    · exact hTf j c hj e.symm
    · cases e
    · cases e
  · rw [recsS, void_recs hv]; rfl
  · have h1 := List.length_filter_le (pS a b) all
    have h2 := nu_le (hs := hs) (cur := a)
    have h3 := hC.len
    have h4 := hC.num
    simp only [List.length_nil]; omega
  clear hE0 e6 e9 e13 e17 e19 hk hT
  rintro m e σ ⟨cur, ov, Lt, Pt, rs, ps, hm, hE, e19, hk, hT, hO, hch, hps, hrl, hov, hno⟩
  have hE0 := hE
  obtain ⟨e6, e9, e13, e17⟩ := hE
  have h200 : (ps.length : Int) < 200 := by omega
  have hTT := hT.tt
  simp only [U10_app, Z10, x10_29, base1, ↓reduceIte, Nat.reduceAdd, Nat.reduceSub, Nat.reduceMul, Nat.reduceEqDiff, Nat.reduceLeDiff, Nat.reduceLT, Int.reduceLT, Int.reduceLE, Int.reduceEq, Int.reduceNe, Int.reduceToNat, Int.reduceAdd, Int.reduceSub, reduceCtorEq, Nat.reduceBEq, Nat.reduceBNe, loopR_exit, loopR_ret, e6, e9, e13, e17, e19, h200]
  refine ⟨T, cur, b, n, ov, Lt, Pt, rfl, hTT, ?_⟩
  cases ov with
  | true =>
    simp only [U10_app, Z10, x10_29, base1, ↓reduceIte, Nat.reduceAdd, Nat.reduceSub, Nat.reduceMul, Nat.reduceEqDiff, Nat.reduceLeDiff, Nat.reduceLT, Int.reduceLT, Int.reduceLE, Int.reduceEq, Int.reduceNe, Int.reduceToNat, Int.reduceAdd, Int.reduceSub, reduceCtorEq, Nat.reduceBEq, Nat.reduceBNe, loopR_exit, loopR_ret, e6, e9, e13, e17, e19, h200]
    obtain ⟨o1, o2⟩ := hov rfl
    subst o1
    exact hK _ _ cur Lt Pt ps ⟨e6, e9, e13, e17⟩ hk hT hch o2 hps
  | false =>
    obtain ⟨g0, g1, g2⟩ := hno rfl
    simp only [U10_app, Z10, x10_29, base1, ↓reduceIte, Nat.reduceAdd, Nat.reduceSub, Nat.reduceMul, Nat.reduceEqDiff, Nat.reduceLeDiff, Nat.reduceLT, Int.reduceLT, Int.reduceLE, Int.reduceEq, Int.reduceNe, Int.reduceToNat, Int.reduceAdd, Int.reduceSub, reduceCtorEq, Nat.reduceBEq, Nat.reduceBNe, loopR_exit, loopR_ret, e6, e9, e13, e17, e19, h200]
    obtain ⟨i0, x0, hi0, hh0⟩ := hC.cov cur
    have hpos := last_pos hi0 hh0 (List.getElem?_eq_some_iff.1 hi0).1
    obtain ⟨i, hi⟩ : ∃ i : Nat, lastI hs cur hs.length = (i : Int) := ⟨(lastI hs cur hs.length).toNat, by omega⟩
    obtain ⟨h, hh, hhas⟩ := last_spec hi
    have hm' := List.mem_of_getElem? hh
    obtain ⟨hf, ht⟩ := hs_iff.1 hhas
    refine .inr ⟨S, i, 0, n, Lv, hs, h, cur, b, rfl, hk.store hS1, hh, hi, hn, hn16, fun σ2 Lr k2 hg hfresh => ?_⟩
    have key := page_step hC.srt hn hf ht g0 (pgNext h.rows cur (endS b h.t) n) (moreS (pgNext h.rows cur (endS b h.t) n) b) (pgRecs h.rows cur (endS b h.t) n) (by rw [hC.row h hm']) rfl (by rw [hC.row h hm'])
    have hpr : (pgRecs h.rows cur (endS b h.t) n).length ≤ 60 := by
      have h1 := hC.len
      have h2 : h.rows.length ≤ all.length := by rw [hC.row h hm']; exact List.length_filter_le _ _
      have h3 := List.length_filter_le (pS cur (endS b h.t)) h.rows
      unfold pgRecs
      rw [List.length_map, List.length_take]; omega
    generalize pgRecs h.rows cur (endS b h.t) n = rr at hg key hpr
    generalize pgNext h.rows cur (endS b h.t) n = nx at key ⊢
    generalize moreS nx b = more at key ⊢
    have hp2 : hget (hpush σ2 [.int .i64 0, .int .i64 0, .int .i64 0, .bool false, .str [], .nilslice, .str [], .bool false]) σ2.length = some [.int .i64 0, .int .i64 0, .int .i64 0, .bool false, .str [], .nilslice, .str [], .bool false] := push_new rfl
    have z8 : put [.int .i64 0, .int .i64 0, .int .i64 0, .bool false, .str [], .nilslice, .str [], .bool false] 0 (repP 0 Lr nx more) = some (repP 0 Lr nx more) := rfl
    have s8 : sub (repP 0 Lr nx more) 0 8 = some (repP 0 Lr nx more) := rfl
    have kp3 : Kp σ2 (hset (hpush σ2 [.int .i64 0, .int .i64 0, .int .i64 0, .bool false, .str [], .nilslice, .str [], .bool false]) σ2.length (repP 0 Lr nx more)) := Kp.pushSet
    have hZ3 := set_same (c := repP 0 Lr nx more) hp2
    have hcl : Lr.isCell = true := grow_cell hg
    have hg3 := kp3.grow hg
    have k03 := k2.trans kp3
    generalize hσ3 : hset (hpush σ2 [.int .i64 0, .int .i64 0, .int .i64 0, .bool false, .str [], .nilslice, .str [], .bool false]) σ2.length (repP 0 Lr nx more) = σ3 at kp3 hZ3 hg3 k03
    simp only [U10_app, Z10, x10_29, base1, ↓reduceIte, Nat.reduceAdd, Nat.reduceSub, Nat.reduceMul, Nat.reduceEqDiff, Nat.reduceLeDiff, Nat.reduceLT, Int.reduceLT, Int.reduceLE, Int.reduceEq, Int.reduceNe, Int.reduceToNat, Int.reduceAdd, Int.reduceSub, reduceCtorEq, Nat.reduceBEq, Nat.reduceBNe, loopR_exit, loopR_ret, e6, e9, e13, e17, e19, h200, hp2, z8, s8, hcl, hσ3, hZ3]
    have hT3 := k03.tour hT
    have hLr : ∀ d, LvD Lr = some d → ¬ OwnT T Lt Pt d := fun d hd ho => by
      rcases ho with e | e | e
      · subst e; exact hfresh _ _ hTT hd
      · obtain ⟨c, hc⟩ := grow_live hT.lv e; exact hfresh _ _ hc hd
      · obtain ⟨c, hc⟩ := grow_live hT.pv e; exact hfresh _ _ hc hd
    have hwr : IntKind.wrap .i64 ((ps.length : Int) + 1) = ((ps.length + 1 : Nat) : Int) := by rw [Gz.wrap64 (by omega)]; omega
    have c1 : more = true → (lessBytes nx cur || nx == cur) = false := fun hmt => by
      rcases key with ⟨m1, _⟩ | ⟨_, m2, _⟩
      · rw [m1] at hmt; cases hmt
      · exact leq_no m2
    have c2 : b = [] ∨ (lessBytes nx b || nx == b) = true := by
      rcases key with ⟨_, m2, _⟩ | ⟨_, _, m3, _⟩
      · subst m2; exact .inr (leq_refl _)
      · exact m3.imp _root_.id leq_yes
    have hrl2 : rs.length + rr.length ≤ 60 := by
      have h1 := hC.len
      have h2 := List.length_filter_le (pS a b) all
      have h3 := congrArg List.length g1
      rcases key with ⟨_, _, m3⟩ | ⟨_, _, _, m4, _⟩
      · rw [← m3] at h3
        simp only [recsS, List.length_append, List.length_map] at h3
        omega
      · rw [← m4] at h3
        simp only [recsS, List.length_append, List.length_map] at h3
        omega
    refine ⟨T, cur, b, nx, n, 0, more, Lt, Pt, Lr, rs, rr, ps, rfl, hT3, hg3, hLr, c1, c2, by omega, by omega, fun σ4 Lt' Pt' hT4 f4 => ?_⟩
    simp only [U10_app, Z10, x10_29, base1, ↓reduceIte, Nat.reduceAdd, Nat.reduceSub, Nat.reduceMul, Nat.reduceEqDiff, Nat.reduceLeDiff, Nat.reduceLT, Int.reduceLT, Int.reduceLE, Int.reduceEq, Int.reduceNe, Int.reduceToNat, Int.reduceAdd, Int.reduceSub, reduceCtorEq, Nat.reduceBEq, Nat.reduceBNe, loopR_exit, loopR_ret, e6, e9, e13, e17, e19, h200, hwr]
    rw [loopR_normal]
    refine ⟨200 - (ps.length + 1), _, _, by omega, .refl _ _ _, nx, !more, Lt', Pt', _, _, by simp, ⟨e6, e9, e13, e17⟩, by rw [List.length_append]; rfl, fun j c hj => (f4 _ _ (k03 _ _ (hk _ _ hj)) (hO _ _ hj)).1, hT4, fun j c hj => (f4 _ _ (k03 _ _ (hk _ _ hj)) (hO _ _ hj)).2, chP_snoc hch, by simp; omega, by simp; omega, fun hv => ?_, fun hv => ?_⟩
    · rcases key with ⟨m1, m2, m3⟩ | ⟨m1, _⟩
      · exact ⟨by rw [m3]; exact g1, .inr m2⟩
      · rw [m1] at hv; cases hv
    · rcases key with ⟨m1, _⟩ | ⟨m1, m2, m3, m4, m5⟩
      · rw [m1] at hv; cases hv
      · refine ⟨m3, by rw [List.append_assoc, m4]; exact g1, ?_⟩
        obtain ⟨n1, n2⟩ := nu_mono (hs := hs) m2
        have hrem : (all.filter (pS nx b)).length ≤ (all.filter (pS cur b)).length := by
          have := congrArg List.length m4
          simp only [recsS, List.length_append, List.length_map] at this
          omega
        rw [List.length_append, List.length_singleton]
        rcases m5 with m5 | ⟨m5, m6⟩
        · omega
        · have := n2 h hm' m5 m6
          omega
end Go.Proofs.Ytmjnmnhpmbbmgaa.tour

/- The end of a tour: what it should tell, its parts. No condition. -/
set_option linter.unusedVariables false
set_option linter.unusedSimpArgs false
namespace Go.Proofs.Ytmjnmnhpmbbmgaa.tour
open Go.ChangeShapes Go.WideShapes Go.ChangeAt Go.RowKit Go.Gz Go.Gz.H
set_option maxHeartbeats 4000000
set_option maxRecDepth 10000
def gwI (σ1 : AHeap) (B A T : Nat) (a b : Bs) (all : List Rw) (m : Nat) (e : Env) (σ : AHeap) : Prop :=
  ∃ (k : Nat) (Wv : AV), k ≤ all.length ∧ m = all.length - k ∧ Kp σ1 σ ∧ Grow σ Wv 2 (recC (((all.take k).filter (pS a b)).map fun r => r.2)) ∧ (∀ j c, hget σ1 j = some c → LvD Wv ≠ some j) ∧ e 6 = .ptr B 0 ∧ e 13 = .ptr A 0 ∧ e 17 = .ptr T 0 ∧ e 26 = Wv ∧ e 27 = .int .i64 (k : Int)
theorem go_want {n0 B A T : Nat} {Mv : AV} {all : List Rw} {a b : Bs} {R : MExit → Env → AHeap → Prop} {kk : Cont} {e : Env} {σ1 : AHeap}
    (hB : hget σ1 B = some [.str a, .str b]) (hM : MapAt σ1 A 0 [Mv] Mv all) (hl : all.length ≤ 60) (e6 : e 6 = .ptr B 0) (e13 : e 13 = .ptr A 0) (e17 : e 17 = .ptr T 0) (e26 : e 26 = .nilslice) (e27 : e 27 = .int .i64 0)
    (hK : ∀ e' σ' Wv, Kp σ1 σ' → Grow σ' Wv 2 (recC (recsS all a b)) → e' 6 = .ptr B 0 → e' 17 = .ptr T 0 → e' 26 = Wv → unw U10 n0 R kk (.exit 6) e' σ') :
    sC U10 n0 b10_105 (unw U10 n0 R kk) e σ1 := by
  refine sC_inv (a := b10_104) (gwI σ1 B A T a b all) all.length _ _ (.refl _ _ _) ⟨0, .nilslice, Nat.zero_le _, rfl, Kp.refl _, .inl ⟨rfl, rfl⟩, fun _ _ _ => by simp [LvD], e6, e13, e17, e26, e27⟩ ?_
  clear e6 e13 e17 e26 e27
  rintro m e σ ⟨k, Wv, hk, hm, kp, hg, hf, e6, e13, e17, e26, e27⟩
  obtain ⟨hA, hMc, hMg, _⟩ := kp.map hM
  have hB1 := kp _ _ hB
  have x0 : [AV.str a, .str b][0]? = some (.str a) := rfl
  have x1 : [AV.str a, .str b][1]? = some (.str b) := rfl
  have a0 : [Mv][0]? = some Mv := rfl
  have hwr : IntKind.wrap .i64 ((k : Int) + 1) = ((k + 1 : Nat) : Int) := by rw [Gz.wrap64 (by omega)]; omega
  have lr : (rowC all).length = all.length := by simp
  have hls : lenSl Mv = some all.length := grow_lenS ⟨hMg, lr⟩
  by_cases hlt' : (k : Int) < (all.length : Int)
  · have hlt : k < all.length := by omega
    have hge0 : (0 : Int) ≤ (k : Int) := by omega
    obtain ⟨r, hr⟩ : ∃ r, all[k]? = some r := ⟨_, List.getElem?_eq_getElem hlt⟩
    obtain ⟨d, rfl, hd, h3⟩ : ∃ d, Mv = .slice d 0 all.length none 3 ∧ hget σ d = some (rowC all).flatten ∧ ∀ x ∈ rowC all, x.length = 3 := by
      rcases hMg with ⟨_, h0⟩ | ⟨d, h1, h2, h3, _⟩
      · have : all = [] := by simpa using h0
        subst this; cases hr
      · exact ⟨d, by rw [h1, lr], h2, h3⟩
    have l0 : lenOf (.slice d 0 all.length none 3) = some all.length := rfl
    have row : (rowC all)[k]? = some [.str r.1, .str r.2.1, .str r.2.2] := by rw [rowC, List.getElem?_map, hr]; rfl
    have c0 : (rowC all).flatten[k * 3]? = some (.str r.1) := flat_at (j := 0) h3 row rfl
    have c1 : sub (rowC all).flatten (k * 3 + 1) 2 = some [.str r.2.1, .str r.2.2] := flat_sub (j := 1) h3 row (by decide)
    have htk : all.take (k + 1) = all.take k ++ [r] := by rw [List.take_add_one, hr]; rfl
    have hn : ((all.take k).filter (pS a b)).length ≤ 60 := by
      have h1 := List.length_filter_le (pS a b) (all.take k)
      have h2 := List.length_take_le k all
      rw [List.length_take] at h1
      omega
    obtain ⟨v, τ, b1, b2, b3, b4, b5⟩ := grow_one (b := 32) (by decide) hg (by simp; omega) [.str r.2.1, .str r.2.2] rfl rfl
    have skip : pS a b r = false → ∀ e' : Env, e' 6 = .ptr B 0 → e' 13 = .ptr A 0 → e' 17 = .ptr T 0 → e' 26 = Wv → e' 27 = .int .i64 ((k + 1 : Nat) : Int) → loopR U10 n0 R kk (gwI σ1 B A T a b all) m .normal e' σ := by
      intro hp e' q6 q13 q17 q26 q27
      rw [loopR_normal]
      have hff : (all.take (k + 1)).filter (pS a b) = (all.take k).filter (pS a b) := by rw [htk, List.filter_append]; simp [hp]
      exact ⟨all.length - (k + 1), _, _, by omega, .refl _ _ _, k + 1, Wv, hlt, rfl, kp, by rw [hff]; exact hg, hf, q6, q13, q17, q26, q27⟩
    have more : pS a b r = true → ∀ e' : Env, e' 6 = .ptr B 0 → e' 13 = .ptr A 0 → e' 17 = .ptr T 0 → e' 26 = v → e' 27 = .int .i64 ((k + 1 : Nat) : Int) → loopR U10 n0 R kk (gwI σ1 B A T a b all) m .normal e' τ := by
      intro hp e' q6 q13 q17 q26 q27
      rw [loopR_normal]
      have hff : (all.take (k + 1)).filter (pS a b) = (all.take k).filter (pS a b) ++ [r] := by rw [htk, List.filter_append]; simp [hp]
      refine ⟨all.length - (k + 1), _, _, by omega, .refl _ _ _, k + 1, v, hlt, rfl, fun j c hj => (b4 _ _ (kp _ _ hj) (hf _ _ hj)).1, ?_, fun j c hj => (b4 _ _ (kp _ _ hj) (hf _ _ hj)).2, q6, q13, q17, q26, q27⟩
      rw [hff, List.map_append, recC, List.map_append]; exact b5
    cases g1 : lessBytes r.1 a with
    | true =>
      simp only [U10_app, Z10, x10_29, base1, ↓reduceIte, Nat.reduceAdd, Nat.reduceSub, Nat.reduceMul, Nat.reduceEqDiff, Nat.reduceLeDiff, Nat.reduceLT, Int.reduceLT, Int.reduceLE, Int.reduceEq, Int.reduceNe, Int.reduceToNat, Int.reduceAdd, Int.reduceSub, reduceCtorEq, Nat.reduceBEq, Nat.reduceBNe, loopR_exit, loopR_ret, e6, e13, e17, e26, e27, hA, a0, l0, hlt', hlt, hge0, Int.toNat_natCast, hd, c0, hB1, x0, x1, g1, hwr]
      exact skip (by simp [pS, g1]) _ e6 e13 e17 e26 rfl
    | false =>
      cases g2 : lessBytes r.1 b with
      | true =>
        simp only [U10_app, Z10, x10_29, base1, ↓reduceIte, Nat.reduceAdd, Nat.reduceSub, Nat.reduceMul, Nat.reduceEqDiff, Nat.reduceLeDiff, Nat.reduceLT, Int.reduceLT, Int.reduceLE, Int.reduceEq, Int.reduceNe, Int.reduceToNat, Int.reduceAdd, Int.reduceSub, reduceCtorEq, Nat.reduceBEq, Nat.reduceBNe, loopR_exit, loopR_ret, e6, e13, e17, e26, e27, hA, a0, l0, hlt', hlt, hge0, Int.toNat_natCast, hd, c0, c1, hB1, x0, x1, g1, g2, b1, b2, b3, hwr]
        exact more (by simp [pS, g1, g2]) _ e6 e13 e17 rfl rfl
      | false =>
        by_cases g3 : b = []
        · subst g3
          simp only [U10_app, Z10, x10_29, base1, ↓reduceIte, Nat.reduceAdd, Nat.reduceSub, Nat.reduceMul, Nat.reduceEqDiff, Nat.reduceLeDiff, Nat.reduceLT, Int.reduceLT, Int.reduceLE, Int.reduceEq, Int.reduceNe, Int.reduceToNat, Int.reduceAdd, Int.reduceSub, reduceCtorEq, Nat.reduceBEq, Nat.reduceBNe, loopR_exit, loopR_ret, e6, e13, e17, e26, e27, hA, a0, l0, hlt', hlt, hge0, Int.toNat_natCast, hd, c0, c1, hB1, x0, x1, g1, g2, b1, b2, b3, hwr]
          exact more (by simp [pS, g1]) _ e6 e13 e17 rfl rfl
        · simp only [U10_app, Z10, x10_29, base1, ↓reduceIte, Nat.reduceAdd, Nat.reduceSub, Nat.reduceMul, Nat.reduceEqDiff, Nat.reduceLeDiff, Nat.reduceLT, Int.reduceLT, Int.reduceLE, Int.reduceEq, Int.reduceNe, Int.reduceToNat, Int.reduceAdd, Int.reduceSub, reduceCtorEq, Nat.reduceBEq, Nat.reduceBNe, loopR_exit, loopR_ret, e6, e13, e17, e26, e27, hA, a0, l0, hlt', hlt, hge0, Int.toNat_natCast, hd, c0, c1, hB1, x0, x1, g1, g2, g3, hwr]
          exact skip (by simp [pS, g1, g2, g3]) _ e6 e13 e17 e26 rfl
  · have hke : k = all.length := by omega
    subst hke
    rw [List.take_length] at hg
    simp only [U10_app, Z10, x10_29, base1, ↓reduceIte, Nat.reduceAdd, Nat.reduceSub, Nat.reduceMul, Nat.reduceEqDiff, Nat.reduceLeDiff, Nat.reduceLT, Int.reduceLT, Int.reduceLE, Int.reduceEq, Int.reduceNe, Int.reduceToNat, Int.reduceAdd, Int.reduceSub, reduceCtorEq, Nat.reduceBEq, Nat.reduceBNe, loopR_exit, loopR_ret, e6, e13, e17, e26, e27, hA, a0, hls, Option.map_some, hlt']
    exact hK _ _ Wv kp hg e6 e17 e26
def gsI (σ1 : AHeap) (B T : Nat) (Wv Pv : AV) (ps : List Rec) (m : Nat) (e : Env) (σ : AHeap) : Prop :=
  ∃ k : Nat, 1 ≤ k ∧ k ≤ ps.length + 1 ∧ m = ps.length + 1 - k ∧ σ = σ1 ∧ e 6 = .ptr B 0 ∧ e 17 = .ptr T 0 ∧ e 26 = Wv ∧ e 29 = Pv ∧ e 30 = .int .i64 (k : Int)
theorem go_parts {n0 B T : Nat} {Wv Pv : AV} {ps : List Rec} {a c : Bs} {K : AV → AHeap → Prop} {kk : Cont} {e : Env} {σ1 : AHeap} (hP : Grow σ1 Pv 2 (recC ps)) (hch : chP a ps c) (hl : ps.length ≤ 100)
    (e6 : e 6 = .ptr B 0) (e17 : e 17 = .ptr T 0) (e26 : e 26 = Wv) (e29 : e 29 = Pv) (e30 : e 30 = .int .i64 1)
    (hK : ∀ e' : Env, e' 6 = .ptr B 0 → e' 17 = .ptr T 0 → e' 26 = Wv → e' 29 = Pv → unw U10 n0 (RetQ [.t 8] K) kk (.exit 8) e' σ1) :
    sC U10 n0 b10_122 (unw U10 n0 (RetQ [.t 8] K) kk) e σ1 := by
  refine sC_inv (a := b10_121) (gsI σ1 B T Wv Pv ps) ps.length _ _ (.refl _ _ _) ⟨1, by decide, by omega, by omega, rfl, e6, e17, e26, e29, e30⟩ ?_
  clear e6 e17 e26 e29 e30
  rintro m e σ ⟨k, hk1, hk, hm, rfl, e6, e17, e26, e29, e30⟩
  have hwr : IntKind.wrap .i64 ((k : Int) + 1) = ((k + 1 : Nat) : Int) := by rw [Gz.wrap64 (by omega)]; omega
  have hw1 : IntKind.wrap .i64 ((k : Int) - 1) = ((k - 1 : Nat) : Int) := by rw [Gz.wrap64 (by omega)]; omega
  have lp : (recC ps).length = ps.length := by simp
  have hls : lenSl Pv = some ps.length := grow_lenS ⟨hP, lp⟩
  by_cases hlt' : (k : Int) < (ps.length : Int)
  · have hlt : k < ps.length := by omega
    have hge0 : (0 : Int) ≤ (k : Int) := by omega
    have hlt1 : ((k - 1 : Nat) : Int) < (ps.length : Int) := by omega
    have hge1 : (0 : Int) ≤ ((k - 1 : Nat) : Int) := by omega
    have hlt1' : k - 1 < ps.length := by omega
    obtain ⟨y, hy⟩ : ∃ y, ps[k]? = some y := ⟨_, List.getElem?_eq_getElem hlt⟩
    obtain ⟨x, hx⟩ : ∃ x, ps[k - 1]? = some x := ⟨_, List.getElem?_eq_getElem hlt1'⟩
    have hyx : y.1 = x.2 := chP_at hch hx (by rw [show k - 1 + 1 = k by omega]; exact hy)
    obtain ⟨d, rfl, hd, h3⟩ : ∃ d, Pv = .slice d 0 ps.length none 2 ∧ hget σ d = some (recC ps).flatten ∧ ∀ x ∈ recC ps, x.length = 2 := by
      rcases hP with ⟨_, h0⟩ | ⟨d, h1, h2, h3, _⟩
      · have : ps = [] := by simpa using h0
        subst this; cases hy
      · exact ⟨d, by rw [h1, lp], h2, h3⟩
    have l0 : lenOf (.slice d 0 ps.length none 2) = some ps.length := rfl
    have r1 : (recC ps)[k]? = some [.str y.1, .str y.2] := by rw [recC, List.getElem?_map, hy]; rfl
    have r2 : (recC ps)[k - 1]? = some [.str x.1, .str x.2] := by rw [recC, List.getElem?_map, hx]; rfl
    have c1 : (recC ps).flatten[k * 2]? = some (.str y.1) := flat_at (j := 0) h3 r1 rfl
    have c2 : (recC ps).flatten[(k - 1) * 2 + 1]? = some (.str x.2) := flat_at (j := 1) h3 r2 rfl
    simp only [U10_app, Z10, x10_29, base1, ↓reduceIte, Nat.reduceAdd, Nat.reduceSub, Nat.reduceMul, Nat.reduceEqDiff, Nat.reduceLeDiff, Nat.reduceLT, Int.reduceLT, Int.reduceLE, Int.reduceEq, Int.reduceNe, Int.reduceToNat, Int.reduceAdd, Int.reduceSub, reduceCtorEq, Nat.reduceBEq, Nat.reduceBNe, loopR_exit, loopR_ret, e6, e17, e26, e29, e30, l0, hlt', hlt, hge0, hlt1, hge1, hlt1', Int.toNat_natCast, hd, c1, c2, hw1, hwr, hyx]
    rw [loopR_normal]
    exact ⟨ps.length + 1 - (k + 1), _, _, by omega, .refl _ _ _, k + 1, by omega, by omega, rfl, rfl, e6, e17, e26, e29, rfl⟩
  · simp only [U10_app, Z10, x10_29, base1, ↓reduceIte, Nat.reduceAdd, Nat.reduceSub, Nat.reduceMul, Nat.reduceEqDiff, Nat.reduceLeDiff, Nat.reduceLT, Int.reduceLT, Int.reduceLE, Int.reduceEq, Int.reduceNe, Int.reduceToNat, Int.reduceAdd, Int.reduceSub, reduceCtorEq, Nat.reduceBEq, Nat.reduceBNe, loopR_exit, loopR_ret, e6, e17, e26, e29, e30, hls, Option.map_some, hlt']
    exact hK _ e6 e17 e26 e29
end Go.Proofs.Ytmjnmnhpmbbmgaa.tour
