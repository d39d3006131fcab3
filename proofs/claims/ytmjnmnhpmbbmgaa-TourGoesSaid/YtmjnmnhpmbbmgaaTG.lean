/- The reference's store: a record is put into a span that is held: what that makes of the heap. No condition. -/
import Derived.Test.YtmjnmnhpmbbmgaaTF
set_option linter.unusedVariables false
set_option linter.unusedSimpArgs false
namespace Go.Proofs.Ytmjnmnhpmbbmgaa.tour
open Go.ChangeShapes Go.WideShapes Go.ChangeAt Go.RowKit Go.Gz Go.Gz.H
set_option maxHeartbeats 4000000
set_option maxRecDepth 10000
theorem flat_set {w : Nat} : ∀ {rows : List (List AV)} {i j : Nat} {row : List AV} {x : AV}, (∀ r ∈ rows, r.length = w) → rows[i]? = some row → j < w → rows.flatten.set (i * w + j) x = (rows.set i (row.set j x)).flatten
  | [], i, j, row, x, _, h, _ => by simp at h
  | r :: rs, 0, j, row, x, h, hr, hj => by
    have hw := h r (by simp)
    simp at hr; subst hr
    simp only [List.flatten_cons, List.set_cons_zero, Nat.zero_mul, Nat.zero_add]
    rw [List.set_append_left _ _ (by omega)]
  | r :: rs, i + 1, j, row, x, h, hr, hj => by
    have hw := h r (by simp)
    have ih := flat_set (rows := rs) (i := i) (j := j) (row := row) (x := x) (fun q hq => h q (by simp [hq])) (by simpa using hr) hj
    simp only [List.flatten_cons, List.set_cons_succ]
    have hm : (i + 1) * w + j = r.length + (i * w + j) := by rw [Nat.add_mul, hw]; omega
    rw [hm, List.set_append_right _ _ (by omega), Nat.add_sub_cancel_left, ih]
def lastI (hs : List HD) (key : Bs) : Nat → Int
  | 0 => -1
  | k + 1 => match hs[k]? with
    | some h => if hsS h.f h.t key = true then (k : Int) else lastI hs key k
    | none => lastI hs key k
theorem lastI_ge (hs : List HD) (key : Bs) : ∀ k, -1 ≤ lastI hs key k ∧ lastI hs key k < k
  | 0 => by simp [lastI]
  | k + 1 => by
    have ih := lastI_ge hs key k
    unfold lastI
    split
    · split <;> omega
    · omega
theorem held_set (hs : List HD) (i : Nat) (h' : HD) : (hs.set i h').map heldC = (hs.map heldC).set i (heldC h') := by rw [List.map_set]
abbrev putH (h : HD) (Mv' : AV) (rows' : List Rw) (Ov' : AV) (o' : Option (Nat × Bool)) : HD := ⟨h.f, h.t, Mv', rows', Ov', o'⟩
theorem held_put {hs : List HD} {i : Nat} {h : HD} (hi : hs[i]? = some h) (Mv' Ov' : AV) (rows' : List Rw) (o') : ((hs.map heldC).flatten.set (i * 6 + 4) Mv').set (i * 6 + 5) Ov' = ((hs.set i (putH h Mv' rows' Ov' o')).map heldC).flatten := by
  have hr : (hs.map heldC)[i]? = some (heldC h) := by rw [List.getElem?_map, hi]; rfl
  have hlt : i < (hs.map heldC).length := (List.getElem?_eq_some_iff.1 hr).1
  rw [flat_set (held_len hs) hr (by decide : 4 < 6)]
  have hl : ∀ r ∈ (hs.map heldC).set i ((heldC h).set 4 Mv'), r.length = 6 := fun r hr => by
    rcases List.mem_or_eq_of_mem_set hr with h | rfl
    · exact held_len hs r h
    · rfl
  rw [flat_set hl (by rw [List.getElem?_set_self hlt]) (by decide : 5 < 6), List.set_set, held_set]
  rfl
/-- What is held, with one record more. -/
theorem put_store {σb σ6 : AHeap} {S H i : Nat} {hs : List HD} {h : HD} {Mv' Ov' : AV} {rows' : List Rw} {o' : Option (Nat × Bool)}
    (hS : StoreAt σb S (.slice H 0 hs.length none 6) hs) (hi : hs[i]? = some h)
    (hfr : ∀ j c, hget σb j = some c → j ≠ H → LvD h.Ov ≠ some j → hget σ6 j = some c)
    (hMf : ∀ j c, hget σb j = some c → LvD Mv' ≠ some j) (hOf : Ov' = h.Ov ∨ ∀ j c, hget σb j = some c → LvD Ov' ≠ some j) (hMO : ∀ d, LvD Mv' = some d → LvD Ov' ≠ some d)
    (hH : hget σ6 H = some (((hs.map heldC).flatten.set (i * 6 + 4) Mv').set (i * 6 + 5) Ov'))
    (hMg : Grow σ6 Mv' 3 (rowC rows')) (hOg : Grow σ6 Ov' 9 (onC o')) (hsz : rows'.length ≤ 1000) :
    StoreAt σ6 S (.slice H 0 hs.length none 6) (hs.set i (putH h Mv' rows' Ov' o')) := by
  have hmem : h ∈ hs := List.mem_of_getElem? hi
  have hlt : i < hs.length := (List.getElem?_eq_some_iff.1 hi).1
  have hSH : S ≠ H := fun e => hS.ap.sl (by rw [e]; rfl)
  have live : ∀ k ∈ hs, ∀ d, k.blk d → ∃ c, hget σb d = some c := fun k hk d hd => by
    rcases hd with hd | hd
    · rcases hS.mv k hk with ⟨e, _⟩ | ⟨d', e, hc, _⟩
      · rw [e] at hd; cases hd
      · rw [e] at hd; cases hd; exact ⟨_, hc⟩
    · rcases hS.ov k hk with ⟨e, _⟩ | ⟨d', e, hc, _⟩
      · rw [e] at hd; cases hd
      · rw [e] at hd; cases hd; exact ⟨_, hc⟩
  have hHb : ∃ c, hget σb H = some c := by
    rcases hS.li with ⟨e, _⟩ | ⟨d', e, hc, _⟩
    · cases e
    · have e1 := (AV.slice.inj e).1
      subst e1; exact ⟨_, hc⟩
  have get : ∀ {j : Nat} {k : HD}, (hs.set i (putH h Mv' rows' Ov' o'))[j]? = some k → (j = i ∧ k = putH h Mv' rows' Ov' o') ∨ (j ≠ i ∧ hs[j]? = some k) := by
    intro j k hk
    by_cases hj : j = i
    · subst hj
      rw [List.getElem?_set_self hlt] at hk
      cases hk; exact .inl ⟨rfl, rfl⟩
    · rw [List.getElem?_set_ne (Ne.symm hj)] at hk
      exact .inr ⟨hj, hk⟩
  have mem : ∀ k ∈ hs.set i (putH h Mv' rows' Ov' o'), k = putH h Mv' rows' Ov' o' ∨ (∃ j, j ≠ i ∧ hs[j]? = some k) := fun k hk => by
    obtain ⟨j, hj⟩ := List.mem_iff_getElem?.1 hk
    rcases get hj with ⟨_, h2⟩ | ⟨h1, h2⟩
    · exact .inl h2
    · exact .inr ⟨j, h1, h2⟩
  -- a block of the new span: fresh, or its old block of answers
  have nb : ∀ d, (putH h Mv' rows' Ov' o').blk d → (∀ c, hget σb d ≠ some c) ∨ LvD h.Ov = some d := by
    rintro d (hd | hd)
    · exact .inl fun c hc => hMf d c hc hd
    · rcases hOf with e | hOf
      · right; rw [← e]; exact hd
      · exact .inl fun c hc => hOf d c hc hd
  refine ⟨hfr _ _ hS.st hSH fun e => (hS.ap.sh h hmem S (.inr e)).1 rfl, .inr ⟨H, by simp, by rw [hH]; exact congrArg some (held_put hi Mv' Ov' rows' o'), held_len _, ?_⟩, fun k hk => ?_, fun k hk => ?_, fun k hk => ?_, by simpa using hS.ln, hS.ap.sl, fun k hk d hd => ?_, fun k hk => ?_, fun a b k l ha hb hab d hd hd' => ?_⟩
  · rw [List.all_eq_true]
    intro x hx
    obtain ⟨r, hr, hx⟩ := List.mem_flatten.1 hx
    obtain ⟨k, hk, rfl⟩ := List.mem_map.1 hr
    have hc : k.Mv.isCell = true ∧ k.Ov.isCell = true := by
      rcases mem k hk with rfl | ⟨j, _, hj⟩
      · exact ⟨grow_cell hMg, grow_cell hOg⟩
      · exact ⟨grow_cell (hS.mv k (List.mem_of_getElem? hj)), grow_cell (hS.ov k (List.mem_of_getElem? hj))⟩
    simp only [heldC, List.mem_cons, List.not_mem_nil, or_false] at hx
    rcases hx with rfl | rfl | rfl | rfl | rfl | rfl
    · rfl
    · rfl
    · rfl
    · rfl
    · exact hc.1
    · exact hc.2
  · rcases mem k hk with rfl | ⟨j, hj, hjk⟩
    · exact hMg
    · have hkm := List.mem_of_getElem? hjk
      exact grow_frame (hS.mv k hkm) fun d c hc hd => hfr d c hc (fun e => (hS.ap.sh k hkm d (.inl hd)).2 (by rw [e]; rfl)) fun e => hS.ap.hh j i k h hjk hi hj d (.inl hd) (.inr e)
  · rcases mem k hk with rfl | ⟨j, hj, hjk⟩
    · exact hOg
    · have hkm := List.mem_of_getElem? hjk
      exact grow_frame (hS.ov k hkm) fun d c hc hd => hfr d c hc (fun e => (hS.ap.sh k hkm d (.inr hd)).2 (by rw [e]; rfl)) fun e => hS.ap.hh j i k h hjk hi hj d (.inr hd) (.inr e)
  · rcases mem k hk with rfl | ⟨j, hj, hjk⟩
    · exact hsz
    · exact hS.sz k (List.mem_of_getElem? hjk)
  · rcases mem k hk with rfl | ⟨j, hj, hjk⟩
    · rcases nb d hd with hn | ho
      · refine ⟨fun e => hn _ (by rw [e]; exact hS.st), fun e => ?_⟩
        cases e
        obtain ⟨c, hc⟩ := hHb
        exact hn c hc
      · exact hS.ap.sh h hmem d (.inr ho)
    · exact hS.ap.sh k (List.mem_of_getElem? hjk) d hd
  · rcases mem k hk with rfl | ⟨j, hj, hjk⟩
    · exact hMO
    · exact hS.ap.mo k (List.mem_of_getElem? hjk)
  · rcases get ha with ⟨rfl, rfl⟩ | ⟨ha1, ha2⟩
    · rcases get hb with ⟨rfl, rfl⟩ | ⟨hb1, hb2⟩
      · exact hab rfl
      · rcases nb d hd with hn | ho
        · obtain ⟨c, hc⟩ := live l (List.mem_of_getElem? hb2) d hd'
          exact hn c hc
        · exact hS.ap.hh a b h l hi hb2 hab d (.inr ho) hd'
    · rcases get hb with ⟨rfl, rfl⟩ | ⟨hb1, hb2⟩
      · rcases nb d hd' with hn | ho
        · obtain ⟨c, hc⟩ := live k (List.mem_of_getElem? ha2) d hd
          exact hn c hc
        · exact hS.ap.hh a b k h ha2 hi hab d hd (.inr ho)
      · exact hS.ap.hh a b k l ha2 hb2 hab d hd hd'
theorem put_own {σb : AHeap} {S H i : Nat} {hs : List HD} {h : HD} {Mv' Ov' : AV} {rows' : List Rw} {o' : Option (Nat × Bool)} (hi : hs[i]? = some h)
    (hMf : ∀ j c, hget σb j = some c → LvD Mv' ≠ some j) (hOf : Ov' = h.Ov ∨ ∀ j c, hget σb j = some c → LvD Ov' ≠ some j) {j : Nat} {c : List AV} (hj : hget σb j = some c) (hn : ¬ Own S (.slice H 0 hs.length none 6) hs j) : ¬ Own S (.slice H 0 hs.length none 6) (hs.set i (putH h Mv' rows' Ov' o')) j := by
  rintro (e | e | ⟨k, hk, hd⟩)
  · exact hn (.inl e)
  · exact hn (.inr (.inl e))
  · rcases List.mem_or_eq_of_mem_set hk with hk | rfl
    · exact hn (.inr (.inr ⟨k, hk, hd⟩))
    · rcases hd with hd | hd
      · exact hMf j c hj hd
      · rcases hOf with e | hOf
        · exact hn (.inr (.inr ⟨h, List.mem_of_getElem? hi, .inr (by rw [← e]; exact hd)⟩))
        · exact hOf j c hj hd
end Go.Proofs.Ytmjnmnhpmbbmgaa.tour

/- The reference's store: what is done: the span that has a key; a page; a record that is put. No condition. -/
set_option linter.unusedVariables false
set_option linter.unusedSimpArgs false
namespace Go.Proofs.Ytmjnmnhpmbbmgaa.tour
open Go.ChangeShapes Go.WideShapes Go.ChangeAt Go.RowKit Go.Gz Go.Gz.H
abbrev r19_0 : List MOper := [⟨(some 3), .box (.t 1), none⟩,
  ⟨(some 4), .alloc [.int .i64 0, .int .i64 0, .int .i64 0, .bool false, .str [], .nilslice, .str [], .bool false], none⟩,
  ⟨(some 5), .move (.c (.bool false)), none⟩]
def b19_0 : SCode := .region r19_0
abbrev r19_1 : List MOper := [⟨(some 19), .fieldAddr 1 (.t 3), none⟩,
  ⟨(some 20), .load1 (.t 19), none⟩,
  ⟨(some 21), .fieldAddr 2 (.t 3), none⟩,
  ⟨(some 22), .load1 (.t 21), none⟩,
  ⟨(some 23), .build [.int .i64 0, .int .i64 0, .int .i64 0, .bool false, .str [], .nilslice, .str [], .bool false] [(0, 1, (.t 20)), (1, 1, (.t 22))], none⟩,
  ⟨(some 6), .alloc [.int .i64 0, .int .i64 0, .int .i64 0, .bool false, .str [], .nilslice, .str [], .bool false], none⟩,
  ⟨none, .store 8 (.t 6) (.t 23), none⟩]
def b19_1 : SCode := .region r19_1
abbrev r19_2 : List MOper := [⟨(some 24), .fieldAddr 0 (.t 3), none⟩,
  ⟨(some 25), .load1 (.t 24), none⟩,
  ⟨(some 26), .bin .lss .num (.t 25) (.c (.int .i64 1)), none⟩,
  ⟨(some 27), .move (.t 26), none⟩,
  ⟨(some 28), .fieldAddr 0 (.t 3), (some (27, false))⟩,
  ⟨(some 29), .load1 (.t 28), (some (27, false))⟩,
  ⟨(some 30), .bin .gtr .num (.t 29) (.c (.int .i64 4)), (some (27, false))⟩,
  ⟨(some 31), .pick (.t 27) (.c (.bool true)) (.t 30), none⟩,
  ⟨(some 32), .move (.t 31), none⟩,
  ⟨(some 33), .fieldAddr 1 (.t 3), (some (32, false))⟩,
  ⟨(some 34), .load1 (.t 33), (some (32, false))⟩,
  ⟨(some 35), .bin .lss .num (.t 34) (.c (.int .i64 0)), (some (32, false))⟩,
  ⟨(some 36), .pick (.t 32) (.c (.bool true)) (.t 35), none⟩,
  ⟨(some 37), .move (.t 36), none⟩,
  ⟨(some 38), .fieldAddr 1 (.t 3), (some (37, false))⟩,
  ⟨(some 39), .load1 (.t 38), (some (37, false))⟩,
  ⟨(some 40), .bin .geq .num (.t 39) (.c (.int .i64 4)), (some (37, false))⟩,
  ⟨(some 41), .pick (.t 37) (.c (.bool true)) (.t 40), none⟩,
  ⟨(some 42), .move (.t 41), none⟩,
  ⟨(some 43), .fieldAddr 2 (.t 3), (some (42, false))⟩,
  ⟨(some 44), .load1 (.t 43), (some (42, false))⟩,
  ⟨(some 45), .bin .lss .num (.t 44) (.c (.int .i64 0)), (some (42, false))⟩,
  ⟨(some 46), .pick (.t 42) (.c (.bool true)) (.t 45), none⟩,
  ⟨(some 47), .move (.t 46), none⟩,
  ⟨(some 48), .fieldAddr 0 (.t 3), (some (47, false))⟩,
  ⟨(some 49), .load1 (.t 48), (some (47, false))⟩,
  ⟨(some 50), .bin .eql .num (.t 49) (.c (.int .i64 4)), (some (47, false))⟩,
  ⟨(some 51), .move (.t 50), (some (47, false))⟩,
  ⟨(some 52), .fieldAddr 7 (.t 3), (some (51, true))⟩,
  ⟨(some 53), .load1 (.t 52), (some (51, true))⟩,
  ⟨(some 54), .bin .lss .num (.t 53) (.c (.int .i64 1)), (some (51, true))⟩,
  ⟨(some 55), .move (.t 54), (some (51, true))⟩,
  ⟨(some 56), .fieldAddr 7 (.t 3), (some (55, false))⟩,
  ⟨(some 57), .load1 (.t 56), (some (55, false))⟩,
  ⟨(some 58), .bin .gtr .num (.t 57) (.c (.int .i64 16)), (some (55, false))⟩,
  ⟨(some 59), .pick (.t 55) (.c (.bool true)) (.t 58), (some (51, true))⟩,
  ⟨(some 60), .pick (.t 51) (.t 59) (.c (.bool false)), (some (47, false))⟩,
  ⟨(some 61), .pick (.t 47) (.c (.bool true)) (.t 60), none⟩]
def b19_2 : SCode := .region r19_2
abbrev r19_3 : List MOper := [⟨(some 62), .fieldAddr 2 (.t 6), none⟩,
  ⟨none, .store 1 (.t 62) (.c (.int .i64 1)), none⟩]
def b19_3 : SCode := .region r19_3
abbrev r19_4 : List MOper := [⟨(some 63), .loadN 8 (.t 6), none⟩,
  ⟨none, .store 8 (.t 4) (.t 63), none⟩,
  ⟨(some 5), .move (.c (.bool true)), none⟩]
def b19_4 : SCode := .region r19_4
def b19_5 : SCode := .seq b19_4 .ret
def b19_6 : SCode := .seq b19_3 b19_5
def b19_7 : SCode := .cond (.t 61) b19_6 .skip
def b19_8 : SCode := .seq b19_2 b19_7
abbrev r19_9 : List MOper := [⟨(some 64), .fieldAddr 5 (.t 3), none⟩,
  ⟨(some 65), .load1 (.t 64), none⟩,
  ⟨(some 7), .move (.t 65), none⟩]
def b19_9 : SCode := .region r19_9
abbrev r19_10 : List MOper := [⟨(some 66), .fieldAddr 0 (.t 3), none⟩,
  ⟨(some 67), .load1 (.t 66), none⟩,
  ⟨(some 68), .bin .neq .num (.t 67) (.c (.int .i64 4)), none⟩]
def b19_10 : SCode := .region r19_10
abbrev t19_11 : LTree := (.quiet ⟨(some 70), .move (.t 0), none⟩ 0
  (.quiet ⟨(some 71), .nilCheck (.t 70), none⟩ 1
  (.quiet ⟨(some 72), .fieldAddr 0 (.t 71), none⟩ 2
  (.quiet ⟨(some 73), .loadN 4 (.t 72), none⟩ 3
  (.quiet ⟨(some 74), .fieldAddr 3 (.t 3), none⟩ 4
  (.quiet ⟨(some 75), .load1 (.t 74), none⟩ 5
  (.loud ⟨(some 76), .call 28 [(.t 73), (.t 75)], none⟩ []
  (.quiet ⟨(some 69), .move (.t 76), none⟩ 7
  (.quiet ⟨(some 77), .extract (.t 69) 0, none⟩ 8
  (.quiet ⟨(some 78), .extract (.t 69) 1, none⟩ 9
  (.quiet ⟨(some 8), .move (.t 77), none⟩ 10
  (.quiet ⟨(some 9), .move (.t 78), none⟩ 11
  .leaf))))) .stop)))))))
def b19_11 : SCode := .draw t19_11
abbrev r19_12 : List MOper := [⟨(some 79), .move (.t 9), none⟩,
  ⟨(some 80), .bin .eql .num (.t 79) (.c (.int .i64 0)), none⟩,
  ⟨(some 81), .move (.t 80), none⟩,
  ⟨(some 82), .fieldAddr 0 (.t 3), (some (81, true))⟩,
  ⟨(some 83), .load1 (.t 82), (some (81, true))⟩,
  ⟨(some 84), .bin .eql .num (.t 83) (.c (.int .i64 1)), (some (81, true))⟩,
  ⟨(some 85), .pick (.t 81) (.t 84) (.c (.bool false)), none⟩,
  ⟨(some 86), .move (.t 85), none⟩,
  ⟨(some 87), .fieldAddr 4 (.t 3), (some (86, true))⟩,
  ⟨(some 88), .load1 (.t 87), (some (86, true))⟩,
  ⟨(some 89), .lenStr (.t 88), (some (86, true))⟩,
  ⟨(some 90), .bin .gtr .num (.t 89) (.c (.int .i64 64)), (some (86, true))⟩,
  ⟨(some 91), .pick (.t 86) (.t 90) (.c (.bool false)), none⟩]
def b19_12 : SCode := .region r19_12
abbrev r19_13 : List MOper := [⟨(some 9), .move (.c (.int .i64 3)), none⟩]
def b19_13 : SCode := .region r19_13
def b19_14 : SCode := .cond (.t 91) b19_13 .skip
def b19_15 : SCode := .seq b19_12 b19_14
abbrev r19_16 : List MOper := [⟨(some 92), .move (.t 9), none⟩,
  ⟨(some 93), .bin .neq .num (.t 92) (.c (.int .i64 0)), none⟩]
def b19_16 : SCode := .region r19_16
abbrev r19_17 : List MOper := [⟨(some 94), .move (.t 9), none⟩,
  ⟨(some 95), .fieldAddr 2 (.t 6), none⟩,
  ⟨none, .store 1 (.t 95) (.t 94), none⟩]
def b19_17 : SCode := .region r19_17
abbrev r19_18 : List MOper := [⟨(some 96), .loadN 8 (.t 6), none⟩,
  ⟨none, .store 8 (.t 4) (.t 96), none⟩,
  ⟨(some 5), .move (.c (.bool true)), none⟩]
def b19_18 : SCode := .region r19_18
def b19_19 : SCode := .seq b19_18 .ret
def b19_20 : SCode := .seq b19_17 b19_19
def b19_21 : SCode := .cond (.t 93) b19_20 .skip
def b19_22 : SCode := .seq b19_16 b19_21
abbrev r19_23 : List MOper := [⟨(some 97), .move (.t 8), none⟩,
  ⟨(some 7), .move (.t 97), none⟩]
def b19_23 : SCode := .region r19_23
def b19_24 : SCode := .seq b19_22 b19_23
def b19_25 : SCode := .seq b19_15 b19_24
def b19_26 : SCode := .seq b19_11 b19_25
def b19_27 : SCode := .cond (.t 68) b19_26 .skip
def b19_28 : SCode := .seq b19_10 b19_27
abbrev r19_29 : List MOper := [⟨(some 10), .move (.c (.int .i64 (-1))), none⟩]
def b19_29 : SCode := .region r19_29
abbrev r19_30 : List MOper := [⟨(some 11), .move (.c (.int .i64 0)), none⟩]
def b19_30 : SCode := .region r19_30
abbrev r19_31 : List MOper := [⟨(some 98), .move (.t 11), none⟩,
  ⟨(some 99), .move (.t 0), none⟩,
  ⟨(some 100), .nilCheck (.t 99), none⟩,
  ⟨(some 101), .fieldAddr 5 (.t 100), none⟩,
  ⟨(some 102), .load1 (.t 101), none⟩,
  ⟨(some 103), .lenSl (.t 102), none⟩,
  ⟨(some 104), .bin .lss .num (.t 98) (.t 103), none⟩]
def b19_31 : SCode := .region r19_31
def b19_32 : SCode := .cond (.t 104) .skip (.exit 0)
def b19_33 : SCode := .seq b19_31 b19_32
abbrev r19_34 : List MOper := [⟨(some 107), .move (.t 0), none⟩,
  ⟨(some 108), .nilCheck (.t 107), none⟩,
  ⟨(some 109), .fieldAddr 5 (.t 108), none⟩,
  ⟨(some 110), .load1 (.t 109), none⟩,
  ⟨(some 111), .move (.t 11), none⟩,
  ⟨(some 112), .indexAddr 6 (.t 110) (.t 111), none⟩,
  ⟨(some 113), .fieldAddr 0 (.t 112), none⟩,
  ⟨(some 114), .loadN 2 (.t 113), none⟩,
  ⟨(some 115), .move (.t 7), none⟩,
  ⟨(some 116), .call 34 [(.t 114), (.t 115)], none⟩,
  ⟨(some 117), .move (.t 116), none⟩,
  ⟨(some 118), .move (.t 0), (some (117, true))⟩,
  ⟨(some 119), .nilCheck (.t 118), (some (117, true))⟩,
  ⟨(some 120), .fieldAddr 5 (.t 119), (some (117, true))⟩,
  ⟨(some 121), .load1 (.t 120), (some (117, true))⟩,
  ⟨(some 122), .move (.t 11), (some (117, true))⟩,
  ⟨(some 123), .indexAddr 6 (.t 121) (.t 122), (some (117, true))⟩,
  ⟨(some 124), .fieldAddr 3 (.t 123), (some (117, true))⟩,
  ⟨(some 125), .load1 (.t 124), (some (117, true))⟩,
  ⟨(some 126), .un .not (.t 125), (some (117, true))⟩,
  ⟨(some 127), .pick (.t 117) (.t 126) (.c (.bool false)), none⟩]
def b19_34 : SCode := .region r19_34
abbrev r19_35 : List MOper := [⟨(some 128), .move (.t 11), none⟩,
  ⟨(some 10), .move (.t 128), none⟩]
def b19_35 : SCode := .region r19_35
def b19_36 : SCode := .cond (.t 127) b19_35 .skip
def b19_37 : SCode := .seq b19_34 b19_36
def b19_38 : SCode := .block 1 b19_37
abbrev r19_39 : List MOper := [⟨(some 105), .move (.t 11), none⟩,
  ⟨(some 106), .bin .add .num (.t 105) (.c (.int .i64 1)), none⟩,
  ⟨(some 11), .move (.t 106), none⟩]
def b19_39 : SCode := .region r19_39
def b19_40 : SCode := .seq b19_38 b19_39
def b19_41 : SCode := .seq b19_33 b19_40
def b19_42 : SCode := .loop b19_41
def b19_43 : SCode := .block 0 b19_42
def b19_44 : SCode := .seq b19_30 b19_43
abbrev r19_45 : List MOper := [⟨(some 129), .move (.t 10), none⟩,
  ⟨(some 130), .bin .lss .num (.t 129) (.c (.int .i64 0)), none⟩]
def b19_45 : SCode := .region r19_45
abbrev r19_46 : List MOper := [⟨(some 131), .fieldAddr 2 (.t 6), none⟩,
  ⟨none, .store 1 (.t 131) (.c (.int .i64 11)), none⟩]
def b19_46 : SCode := .region r19_46
abbrev r19_47 : List MOper := [⟨(some 132), .loadN 8 (.t 6), none⟩,
  ⟨none, .store 8 (.t 4) (.t 132), none⟩,
  ⟨(some 5), .move (.c (.bool false)), none⟩]
def b19_47 : SCode := .region r19_47
def b19_48 : SCode := .seq b19_47 .ret
def b19_49 : SCode := .seq b19_46 b19_48
def b19_50 : SCode := .cond (.t 130) b19_49 .skip
def b19_51 : SCode := .seq b19_45 b19_50
abbrev r19_52 : List MOper := [⟨(some 133), .move (.t 0), none⟩,
  ⟨(some 134), .nilCheck (.t 133), none⟩,
  ⟨(some 135), .fieldAddr 5 (.t 134), none⟩,
  ⟨(some 136), .load1 (.t 135), none⟩,
  ⟨(some 137), .move (.t 10), none⟩,
  ⟨(some 138), .indexAddr 6 (.t 136) (.t 137), none⟩,
  ⟨(some 12), .move (.t 138), none⟩]
def b19_52 : SCode := .region r19_52
abbrev r19_53 : List MOper := [⟨(some 139), .fieldAddr 0 (.t 3), none⟩,
  ⟨(some 140), .load1 (.t 139), none⟩]
def b19_53 : SCode := .region r19_53
abbrev r19_54 : List MOper := [⟨(some 142), .bin .eql .num (.t 140) (.c (.int .i64 3)), none⟩,
  ⟨(some 141), .move (.t 142), none⟩]
def b19_54 : SCode := .region r19_54
abbrev r19_55 : List MOper := [⟨(some 144), .move (.t 12), none⟩,
  ⟨(some 145), .nilCheck (.t 144), none⟩,
  ⟨(some 146), .fieldAddr 4 (.t 145), none⟩,
  ⟨(some 147), .move (.t 7), none⟩,
  ⟨(some 148), .call 39 [(.t 146), (.t 147)], none⟩,
  ⟨(some 143), .move (.t 148), none⟩,
  ⟨(some 149), .extract (.t 143) 0, none⟩,
  ⟨(some 150), .extract (.t 143) 1, none⟩,
  ⟨(some 13), .alloc [.str [], .str []], none⟩,
  ⟨none, .store 2 (.t 13) (.t 149), none⟩,
  ⟨(some 14), .move (.t 150), none⟩]
def b19_55 : SCode := .region r19_55
abbrev t19_56 : LTree := (.quiet ⟨(some 151), .move (.t 14), none⟩ 0
  (.quiet ⟨(some 152), .fieldAddr 1 (.t 13), none⟩ 1
  (.quiet ⟨(some 153), .load1 (.t 152), none⟩ 2
  (.quiet ⟨(some 154), .fieldAddr 3 (.t 6), none⟩ 3
  (.loud ⟨none, .store 1 (.t 154) (.t 151), none⟩ [2]
  (.quiet ⟨(some 155), .fieldAddr 4 (.t 6), none⟩ 5
  (.loud ⟨none, .store 1 (.t 155) (.t 153), none⟩ []
  .leaf .stop)) .stop)))))
def b19_56 : SCode := .draw t19_56
abbrev r19_57 : List MOper := [⟨(some 156), .loadN 8 (.t 6), none⟩,
  ⟨none, .store 8 (.t 4) (.t 156), none⟩,
  ⟨(some 5), .move (.c (.bool true)), none⟩]
def b19_57 : SCode := .region r19_57
def b19_58 : SCode := .seq b19_57 .ret
def b19_59 : SCode := .seq b19_56 b19_58
def b19_60 : SCode := .seq b19_55 b19_59
abbrev r19_61 : List MOper := [⟨(some 158), .bin .eql .num (.t 140) (.c (.int .i64 4)), none⟩,
  ⟨(some 157), .move (.t 158), none⟩]
def b19_61 : SCode := .region r19_61
abbrev r19_62 : List MOper := [⟨(some 159), .move (.t 12), none⟩,
  ⟨(some 160), .loadN 8 (.t 3), none⟩,
  ⟨(some 161), .loadN 8 (.t 6), none⟩,
  ⟨(some 162), .call 40 [(.t 159), (.t 160), (.t 161)], none⟩,
  ⟨none, .store 8 (.t 4) (.t 162), none⟩,
  ⟨(some 5), .move (.c (.bool true)), none⟩]
def b19_62 : SCode := .region r19_62
def b19_63 : SCode := .seq b19_62 .ret
def b19_64 : SCode := .cond (.t 157) b19_63 .skip
def b19_65 : SCode := .seq b19_61 b19_64
def b19_66 : SCode := .cond (.t 141) b19_60 b19_65
def b19_67 : SCode := .seq b19_54 b19_66
def b19_68 : SCode := .block 2 b19_67
def b19_69 : SCode := .seq b19_53 b19_68
abbrev t19_70 : LTree := (.quiet ⟨(some 164), .move (.t 12), none⟩ 0
  (.quiet ⟨(some 165), .nilCheck (.t 164), none⟩ 1
  (.quiet ⟨(some 166), .fieldAddr 5 (.t 165), none⟩ 2
  (.quiet ⟨(some 167), .fieldAddr 1 (.t 3), none⟩ 3
  (.quiet ⟨(some 168), .load1 (.t 167), none⟩ 4
  (.quiet ⟨(some 169), .fieldAddr 2 (.t 3), none⟩ 5
  (.quiet ⟨(some 170), .load1 (.t 169), none⟩ 6
  (.loud ⟨(some 171), .call 41 [(.t 166), (.t 168), (.t 170)], none⟩ []
  (.quiet ⟨(some 163), .move (.t 171), none⟩ 8
  (.quiet ⟨(some 172), .extract (.t 163) 0, none⟩ 9
  (.quiet ⟨(some 173), .extract (.t 163) 1, none⟩ 10
  (.loud ⟨(some 15), .alloc [.int .i64 0, .int .i64 0, .int .i64 0, .bool false, .str [], .nilslice, .str [], .bool false], none⟩ [4, 6]
  (.loud ⟨none, .store 8 (.t 15) (.t 172), none⟩ []
  (.quiet ⟨(some 16), .move (.t 173), none⟩ 13
  .leaf) .stop) .stop)))) (.loud ⟨(some 15), .alloc [.int .i64 0, .int .i64 0, .int .i64 0, .bool false, .str [], .nilslice, .str [], .bool false], none⟩ [4, 6]
  (.loud ⟨(some 171), .call 41 [(.t 166), (.t 168), (.t 170)], none⟩ []
  (.quiet ⟨(some 163), .move (.t 171), none⟩ 8
  (.quiet ⟨(some 172), .extract (.t 163) 0, none⟩ 9
  (.quiet ⟨(some 173), .extract (.t 163) 1, none⟩ 10
  (.loud ⟨none, .store 8 (.t 15) (.t 172), none⟩ []
  (.quiet ⟨(some 16), .move (.t 173), none⟩ 13
  .leaf) .stop)))) .stop) .stop)))))))))
def b19_70 : SCode := .draw t19_70
abbrev r19_71 : List MOper := [⟨(some 174), .move (.t 16), none⟩,
  ⟨(some 175), .bin .eql .num (.t 174) (.c (.int .i64 1)), none⟩]
def b19_71 : SCode := .region r19_71
abbrev r19_72 : List MOper := [⟨(some 176), .loadN 8 (.t 15), none⟩,
  ⟨none, .store 8 (.t 4) (.t 176), none⟩,
  ⟨(some 5), .move (.c (.bool true)), none⟩]
def b19_72 : SCode := .region r19_72
def b19_73 : SCode := .seq b19_72 .ret
def b19_74 : SCode := .cond (.t 175) b19_73 .skip
def b19_75 : SCode := .seq b19_71 b19_74
abbrev r19_76 : List MOper := [⟨(some 177), .move (.t 16), none⟩,
  ⟨(some 178), .bin .eql .num (.t 177) (.c (.int .i64 2)), none⟩]
def b19_76 : SCode := .region r19_76
abbrev r19_77 : List MOper := [⟨(some 179), .build [.int .i64 0, .int .i64 0, .int .i64 0, .bool false, .str [], .nilslice, .str [], .bool false] [], none⟩,
  ⟨none, .store 8 (.t 4) (.t 179), none⟩,
  ⟨(some 5), .move (.c (.bool false)), none⟩]
def b19_77 : SCode := .region r19_77
def b19_78 : SCode := .seq b19_77 .ret
def b19_79 : SCode := .cond (.t 178) b19_78 .skip
def b19_80 : SCode := .seq b19_76 b19_79
abbrev r19_81 : List MOper := [⟨(some 181), .move (.t 12), none⟩,
  ⟨(some 182), .nilCheck (.t 181), none⟩,
  ⟨(some 183), .fieldAddr 4 (.t 182), none⟩,
  ⟨(some 184), .move (.t 7), none⟩,
  ⟨(some 185), .call 39 [(.t 183), (.t 184)], none⟩,
  ⟨(some 180), .move (.t 185), none⟩,
  ⟨(some 186), .extract (.t 180) 0, none⟩,
  ⟨(some 187), .extract (.t 180) 1, none⟩,
  ⟨(some 17), .alloc [.str [], .str []], none⟩,
  ⟨none, .store 2 (.t 17) (.t 186), none⟩,
  ⟨(some 18), .move (.t 187), none⟩]
def b19_81 : SCode := .region r19_81
abbrev r19_82 : List MOper := [⟨(some 200), .fieldAddr 0 (.t 3), none⟩,
  ⟨(some 201), .load1 (.t 200), none⟩,
  ⟨(some 202), .bin .eql .num (.t 201) (.c (.int .i64 2)), none⟩,
  ⟨(some 199), .move (.t 202), none⟩]
def b19_82 : SCode := .region r19_82
abbrev r19_83 : List MOper := [⟨(some 203), .move (.t 12), none⟩,
  ⟨(some 204), .nilCheck (.t 203), none⟩,
  ⟨(some 205), .fieldAddr 4 (.t 204), none⟩,
  ⟨(some 206), .move (.t 7), none⟩,
  ⟨(some 207), .call 42 [(.t 205), (.t 206)], none⟩,
  ⟨(some 208), .fieldAddr 3 (.t 6), none⟩,
  ⟨none, .store 1 (.t 208) (.t 207), none⟩]
def b19_83 : SCode := .region r19_83
abbrev t19_84 : LTree := (.quiet ⟨(some 210), .move (.t 18), none⟩ 0
  (.quiet ⟨(some 211), .un .not (.t 210), none⟩ 1
  (.quiet ⟨(some 212), .move (.t 211), none⟩ 2
  (.quiet ⟨(some 213), .move (.t 12), (some (212, true))⟩ 3
  (.quiet ⟨(some 214), .nilCheck (.t 213), (some (212, true))⟩ 4
  (.quiet ⟨(some 215), .fieldAddr 4 (.t 214), (some (212, true))⟩ 5
  (.quiet ⟨(some 216), .fieldAddr 0 (.t 215), (some (212, true))⟩ 6
  (.quiet ⟨(some 217), .load1 (.t 216), (some (212, true))⟩ 7
  (.quiet ⟨(some 218), .lenSl (.t 217), (some (212, true))⟩ 8
  (.quiet ⟨(some 219), .move (.t 0), (some (212, true))⟩ 9
  (.quiet ⟨(some 220), .nilCheck (.t 219), (some (212, true))⟩ 10
  (.quiet ⟨(some 221), .fieldAddr 4 (.t 220), (some (212, true))⟩ 11
  (.quiet ⟨(some 222), .load1 (.t 221), (some (212, true))⟩ 12
  (.quiet ⟨(some 223), .bin .geq .num (.t 218) (.t 222), (some (212, true))⟩ 13
  (.quiet ⟨(some 224), .pick (.t 212) (.t 223) (.c (.bool false)), none⟩ 14
  (.quiet ⟨(some 209), .move (.t 224), none⟩ 15
  .leaf))))))))))))))))
def b19_84 : SCode := .draw t19_84
abbrev r19_85 : List MOper := [⟨(some 225), .fieldAddr 2 (.t 6), none⟩,
  ⟨none, .store 1 (.t 225) (.c (.int .i64 8)), none⟩]
def b19_85 : SCode := .region r19_85
abbrev t19_86 : LTree := (.quiet ⟨(some 188), .move (.t 12), none⟩ 0
  (.quiet ⟨(some 189), .nilCheck (.t 188), none⟩ 1
  (.quiet ⟨(some 190), .fieldAddr 4 (.t 189), none⟩ 2
  (.quiet ⟨(some 191), .move (.t 7), none⟩ 3
  (.quiet ⟨(some 192), .fieldAddr 3 (.t 3), none⟩ 4
  (.quiet ⟨(some 193), .load1 (.t 192), none⟩ 5
  (.quiet ⟨(some 194), .fieldAddr 4 (.t 3), none⟩ 6
  (.quiet ⟨(some 195), .load1 (.t 194), none⟩ 7
  (.quiet ⟨(some 196), .build [.str [], .str []] [(0, 1, (.t 193)), (1, 1, (.t 195))], none⟩ 8
  (.loud ⟨(some 197), .call 29 [(.t 190), (.t 191), (.t 196)], none⟩ []
  (.quiet ⟨(some 198), .fieldAddr 3 (.t 6), none⟩ 10
  (.loud ⟨none, .store 1 (.t 198) (.t 197), none⟩ []
  .leaf .stop)) .stop))))))))))
def b19_86 : SCode := .draw t19_86
def b19_87 : SCode := .cond (.t 209) b19_85 b19_86
def b19_88 : SCode := .seq b19_84 b19_87
def b19_89 : SCode := .cond (.t 199) b19_83 b19_88
def b19_90 : SCode := .seq b19_82 b19_89
def b19_91 : SCode := .block 3 b19_90
abbrev t19_92 : LTree := (.quiet ⟨(some 226), .move (.t 12), none⟩ 0
  (.quiet ⟨(some 227), .nilCheck (.t 226), none⟩ 1
  (.quiet ⟨(some 228), .fieldAddr 5 (.t 227), none⟩ 2
  (.quiet ⟨(some 229), .loadN 8 (.t 6), none⟩ 3
  (.loud ⟨(some 230), .call 36 [(.t 228), (.t 229)], none⟩ []
  .leaf .stop)))))
def b19_92 : SCode := .draw t19_92
abbrev r19_93 : List MOper := [⟨(some 231), .loadN 8 (.t 6), none⟩,
  ⟨none, .store 8 (.t 4) (.t 231), none⟩,
  ⟨(some 5), .move (.c (.bool true)), none⟩]
def b19_93 : SCode := .region r19_93
def b19_94 : SCode := .seq b19_93 .ret
def b19_95 : SCode := .seq b19_92 b19_94
def b19_96 : SCode := .seq b19_91 b19_95
def b19_97 : SCode := .seq b19_81 b19_96
def b19_98 : SCode := .seq b19_80 b19_97
def b19_99 : SCode := .seq b19_75 b19_98
def b19_100 : SCode := .seq b19_70 b19_99
def b19_101 : SCode := .seq b19_69 b19_100
def b19_102 : SCode := .seq b19_52 b19_101
def b19_103 : SCode := .seq b19_51 b19_102
def b19_104 : SCode := .seq b19_44 b19_103
def b19_105 : SCode := .seq b19_29 b19_104
def b19_106 : SCode := .seq b19_28 b19_105
def b19_107 : SCode := .seq b19_9 b19_106
def b19_108 : SCode := .seq b19_8 b19_107
def b19_109 : SCode := .seq b19_1 b19_108
def b19_110 : SCode := .seq b19_0 b19_109
def s19 : SFunc := ⟨232, [.cN 4 8, .t 5], b19_110⟩
theorem c19 : sFn Try.prog 19 = some s19 := by kernel_rfl
theorem x19_44 : XS b19_44 b19_30 b19_43 := rfl
theorem x19_95 : XS b19_95 b19_92 b19_94 := rfl
theorem x19_99 : XS b19_99 b19_75 b19_98 := rfl
theorem Z19 : XR b19_0 r19_0 ∧ XR b19_1 r19_1 ∧ XR b19_2 r19_2 ∧ XR b19_3 r19_3 ∧ XR b19_4 r19_4 ∧ XS b19_5 b19_4 .ret ∧ XS b19_6 b19_3 b19_5 ∧ XC b19_7 (.t 61) b19_6 .skip ∧ XS b19_8 b19_2 b19_7 ∧ XR b19_9 r19_9 ∧ XR b19_10 r19_10 ∧ XT b19_11 t19_11 ∧ XR b19_12 r19_12 ∧ XR b19_13 r19_13 ∧ XC b19_14 (.t 91) b19_13 .skip ∧ XS b19_15 b19_12 b19_14 ∧ XR b19_16 r19_16 ∧ XR b19_17 r19_17 ∧ XR b19_18 r19_18 ∧ XS b19_19 b19_18 .ret ∧ XS b19_20 b19_17 b19_19 ∧ XC b19_21 (.t 93) b19_20 .skip ∧ XS b19_22 b19_16 b19_21 ∧ XR b19_23 r19_23 ∧ XS b19_24 b19_22 b19_23 ∧ XS b19_25 b19_15 b19_24 ∧ XS b19_26 b19_11 b19_25 ∧ XC b19_27 (.t 68) b19_26 .skip ∧ XS b19_28 b19_10 b19_27 ∧ XR b19_29 r19_29 ∧ XR b19_30 r19_30 ∧ XR b19_31 r19_31 ∧ XC b19_32 (.t 104) .skip (.exit 0) ∧ XS b19_33 b19_31 b19_32 ∧ XR b19_34 r19_34 ∧ XR b19_35 r19_35 ∧ XC b19_36 (.t 127) b19_35 .skip ∧ XS b19_37 b19_34 b19_36 ∧ XB b19_38 1 b19_37 ∧ XR b19_39 r19_39 ∧ XS b19_40 b19_38 b19_39 ∧ XS b19_41 b19_33 b19_40 ∧ XB b19_43 0 b19_42 ∧ XR b19_45 r19_45 ∧ XR b19_46 r19_46 ∧ XR b19_47 r19_47 ∧ XS b19_48 b19_47 .ret ∧ XS b19_49 b19_46 b19_48 ∧ XC b19_50 (.t 130) b19_49 .skip ∧ XS b19_51 b19_45 b19_50 ∧ XR b19_52 r19_52 ∧ XR b19_53 r19_53 ∧ XR b19_54 r19_54 ∧ XR b19_55 r19_55 ∧ XT b19_56 t19_56 ∧ XR b19_57 r19_57 ∧ XS b19_58 b19_57 .ret ∧ XS b19_59 b19_56 b19_58 ∧ XS b19_60 b19_55 b19_59 ∧ XR b19_61 r19_61 ∧ XR b19_62 r19_62 ∧ XS b19_63 b19_62 .ret ∧ XC b19_64 (.t 157) b19_63 .skip ∧ XS b19_65 b19_61 b19_64 ∧ XC b19_66 (.t 141) b19_60 b19_65 ∧ XS b19_67 b19_54 b19_66 ∧ XB b19_68 2 b19_67 ∧ XS b19_69 b19_53 b19_68 ∧ XT b19_70 t19_70 ∧ XR b19_71 r19_71 ∧ XR b19_72 r19_72 ∧ XS b19_73 b19_72 .ret ∧ XC b19_74 (.t 175) b19_73 .skip ∧ XS b19_75 b19_71 b19_74 ∧ XR b19_76 r19_76 ∧ XR b19_77 r19_77 ∧ XS b19_78 b19_77 .ret ∧ XC b19_79 (.t 178) b19_78 .skip ∧ XS b19_80 b19_76 b19_79 ∧ XR b19_81 r19_81 ∧ XR b19_82 r19_82 ∧ XR b19_83 r19_83 ∧ XT b19_84 t19_84 ∧ XR b19_85 r19_85 ∧ XT b19_86 t19_86 ∧ XC b19_87 (.t 209) b19_85 b19_86 ∧ XS b19_88 b19_84 b19_87 ∧ XC b19_89 (.t 199) b19_83 b19_88 ∧ XS b19_90 b19_82 b19_89 ∧ XB b19_91 3 b19_90 ∧ XT b19_92 t19_92 ∧ XR b19_93 r19_93 ∧ XS b19_94 b19_93 .ret ∧ XS b19_96 b19_91 b19_95 ∧ XS b19_97 b19_81 b19_96 ∧ XS b19_98 b19_80 b19_97 ∧ XS b19_100 b19_70 b19_99 ∧ XS b19_101 b19_69 b19_100 ∧ XS b19_102 b19_52 b19_101 ∧ XS b19_103 b19_51 b19_102 ∧ XS b19_104 b19_44 b19_103 ∧ XS b19_105 b19_29 b19_104 ∧ XS b19_106 b19_28 b19_105 ∧ XS b19_107 b19_9 b19_106 ∧ XS b19_108 b19_8 b19_107 ∧ XS b19_109 b19_1 b19_108 ∧ XS b19_110 b19_0 b19_109 ∧ XY s19 232 b19_110 [.cN 4 8, .t 5] := ⟨rfl, rfl, rfl, rfl, rfl, rfl, rfl, sC_cond, rfl, rfl, rfl, rfl, rfl, rfl, sC_cond, rfl, rfl, rfl, rfl, rfl, rfl, sC_cond, rfl, rfl, rfl, rfl, rfl, sC_cond, rfl, rfl, rfl, rfl, sC_cond, rfl, rfl, rfl, sC_cond, rfl, rfl, rfl, rfl, rfl, rfl, rfl, rfl, rfl, rfl, rfl, sC_cond, rfl, rfl, rfl, rfl, rfl, rfl, rfl, rfl, rfl, rfl, rfl, rfl, rfl, sC_cond, rfl, sC_cond, rfl, rfl, rfl, rfl, rfl, rfl, rfl, sC_cond, rfl, rfl, rfl, rfl, sC_cond, rfl, rfl, rfl, rfl, rfl, rfl, rfl, sC_cond, rfl, sC_cond, rfl, rfl, rfl, rfl, rfl, rfl, rfl, rfl, rfl, rfl, rfl, rfl, rfl, rfl, rfl, rfl, rfl, rfl, rfl, rfl⟩

set_option maxHeartbeats 4000000
set_option maxRecDepth 10000
def U19 : PCall := rowQ 28 makeD (rowQ 34 hasD (rowQ 39 getD (rowQ 40 pageD (rowQ 41 seeD (rowQ 29 putD' (rowQ 36 notD noCall))))))
theorem U19_app {f : FuncId} {args : List AV} {σ : AHeap} {K : AV → AHeap → Prop} : U19 f args σ K = rowQ 28 makeD (rowQ 34 hasD (rowQ 39 getD (rowQ 40 pageD (rowQ 41 seeD (rowQ 29 putD' (rowQ 36 notD noCall)))))) f args σ K := _root_.id rfl
theorem U19_sound : Sound Try.prog U19 := rowQ_sound makeD_ok (rowQ_sound hasD_ok (rowQ_sound getD_ok (rowQ_sound pageD_ok (rowQ_sound seeD_ok (rowQ_sound putD_ok (rowQ_sound notD_ok (noCall_sound _)))))))
theorem hasD_eq {f t key : Bs} {σ : AHeap} {K : AV → AHeap → Prop} : hasD [.agg [.str f, .str t], .str key] σ K = K (.bool (hsS f t key)) σ := by
  refine propext ⟨fun ⟨f', t', k', h, hk⟩ => ?_, fun h => ⟨f, t, key, rfl, h⟩⟩
  simp only [List.cons.injEq, AV.agg.injEq, AV.str.injEq, and_true] at h
  rw [h.1.1, h.1.2, h.2]; exact hk
def dE (S X Z R : Nat) (key : Bs) (e : Env) : Prop := e 0 = .ptr S 0 ∧ e 3 = .ptr X 0 ∧ e 4 = .ptr Z 0 ∧ e 6 = .ptr R 0 ∧ e 7 = .str key
def daI (σ0 : AHeap) (S X Z R : Nat) (key : Bs) (hs : List HD) (m : Nat) (e : Env) (σ : AHeap) : Prop := ∃ k : Nat, k ≤ hs.length ∧ m = hs.length - k ∧ σ = σ0 ∧ dE S X Z R key e ∧ e 10 = .int .i64 (lastI hs key k) ∧ e 11 = .int .i64 (k : Int)
theorem do_at {n0 S X Z R : Nat} {Lv : AV} {hs : List HD} {key : Bs} {K : MExit → Env → AHeap → Prop} {k : Cont} {e : Env} {σ : AHeap} (hS : StoreAt σ S Lv hs) (hE : dE S X Z R key e) (e10 : e 10 = .int .i64 (-1))
    (hK : ∀ e', dE S X Z R key e' → e' 10 = .int .i64 (lastI hs key hs.length) → unw U19 n0 K k .normal e' σ) : sC U19 n0 b19_44 (unw U19 n0 K k) e σ := by
  obtain ⟨e0, e3, e4, e6, e7⟩ := hE
  simp only [U19_app, Z19, x19_44, x19_95, x19_99, base1, ↓reduceIte, Nat.reduceAdd, Nat.reduceSub, Nat.reduceMul, Nat.reduceEqDiff, Nat.reduceLeDiff, Nat.reduceLT, Int.reduceLT, Int.reduceLE, Int.reduceEq, Int.reduceNe, Int.reduceToNat, Int.reduceAdd, Int.reduceSub, reduceCtorEq, Nat.reduceBEq, Nat.reduceBNe]
  refine sC_inv (a := b19_41) (daI σ S X Z R key hs) hs.length _ _ (.refl _ _ _) ⟨0, Nat.zero_le _, rfl, rfl, ⟨e0, e3, e4, e6, e7⟩, e10, rfl⟩ ?_
  clear e0 e3 e4 e6 e7 e10
  rintro m e σ ⟨i, hi, hm, rfl, ⟨e0, e3, e4, e6, e7⟩, e10, e11⟩
  have hst := hS.st
  have ht5 : (storeC Lv)[5]? = some Lv := rfl
  have hls : lenSl Lv = some hs.length := grow_lenS ⟨hS.li, by simp⟩
  have hwr : IntKind.wrap .i64 ((i : Int) + 1) = ((i + 1 : Nat) : Int) := by rw [Gz.wrap64 (by have := hS.ln; omega)]; omega
  by_cases hlt' : (i : Int) < (hs.length : Int)
  · have hlt : i < hs.length := by omega
    have hge0 : (0 : Int) ≤ (i : Int) := by omega
    obtain ⟨x, hx⟩ : ∃ x, hs[i]? = some x := ⟨_, List.getElem?_eq_getElem hlt⟩
    rcases held_cases hS with ⟨_, h0⟩ | ⟨H, rfl, hH⟩
    · subst h0; cases hx
    · have c1 : sub (hs.map heldC).flatten (i * 6) 2 = some [.str x.f, .str x.t] := held_sub hx 0 2 (by decide)
      have c3 : (hs.map heldC).flatten[i * 6 + 3]? = some (.bool false) := held_at hx (j := 3) rfl
      have l0 : lenOf (.slice H 0 hs.length none 6) = some hs.length := rfl
      cases hh : hsS x.f x.t key with
      | true =>
        have hl : lastI hs key (i + 1) = (i : Int) := by unfold lastI; rw [hx]; simp [hh]
        simp only [U19_app, hasD_eq, Z19, x19_44, x19_95, x19_99, base1, ↓reduceIte, Nat.reduceAdd, Nat.reduceSub, Nat.reduceMul, Nat.reduceEqDiff, Nat.reduceLeDiff, Nat.reduceLT, Int.reduceLT, Int.reduceLE, Int.reduceEq, Int.reduceNe, Int.reduceToNat, Int.reduceAdd, Int.reduceSub, reduceCtorEq, Nat.reduceBEq, Nat.reduceBNe, loopR_exit, loopR_ret, e0, e3, e4, e6, e7, e10, e11, hst, ht5, l0, Option.map_some, hlt', hlt, hge0, Int.toNat_natCast, hH, c1, c3, hh, hwr]
        rw [loopR_normal]
        exact ⟨hs.length - (i + 1), _, _, by omega, .refl _ _ _, i + 1, hlt, rfl, rfl, ⟨e0, e3, e4, e6, e7⟩, by rw [hl]; rfl, rfl⟩
      | false =>
        have hl : lastI hs key (i + 1) = lastI hs key i := by conv => lhs; unfold lastI
                                                              rw [hx]; simp [hh]
        simp only [U19_app, hasD_eq, Z19, x19_44, x19_95, x19_99, base1, ↓reduceIte, Nat.reduceAdd, Nat.reduceSub, Nat.reduceMul, Nat.reduceEqDiff, Nat.reduceLeDiff, Nat.reduceLT, Int.reduceLT, Int.reduceLE, Int.reduceEq, Int.reduceNe, Int.reduceToNat, Int.reduceAdd, Int.reduceSub, reduceCtorEq, Nat.reduceBEq, Nat.reduceBNe, loopR_exit, loopR_ret, e0, e3, e4, e6, e7, e10, e11, hst, ht5, l0, Option.map_some, hlt', hlt, hge0, Int.toNat_natCast, hH, c1, c3, hh, hwr]
        rw [loopR_normal]
        exact ⟨hs.length - (i + 1), _, _, by omega, .refl _ _ _, i + 1, hlt, rfl, rfl, ⟨e0, e3, e4, e6, e7⟩, by rw [hl]; exact e10, rfl⟩
  · have hke : i = hs.length := by omega
    subst hke
    simp only [U19_app, hasD_eq, Z19, x19_44, x19_95, x19_99, base1, ↓reduceIte, Nat.reduceAdd, Nat.reduceSub, Nat.reduceMul, Nat.reduceEqDiff, Nat.reduceLeDiff, Nat.reduceLT, Int.reduceLT, Int.reduceLE, Int.reduceEq, Int.reduceNe, Int.reduceToNat, Int.reduceAdd, Int.reduceSub, reduceCtorEq, Nat.reduceBEq, Nat.reduceBNe, loopR_exit, loopR_ret, e0, e3, e4, e6, e7, e10, e11, hst, ht5, hls, Option.map_some, hlt']
    exact hK _ ⟨e0, e3, e4, e6, e7⟩ e10
/-- The heap behind the first steps: the ask, the answer, the reply. -/
theorem do_heap (σ : AHeap) (A rep : List AV) :
    hget (hpush (hpush σ A) zeroRep) σ.length = some A ∧ hget (hpush (hpush (hpush σ A) zeroRep) zeroRep) (hpush (hpush σ A) zeroRep).length = some zeroRep ∧
    Kp σ (hset (hpush (hpush (hpush σ A) zeroRep) zeroRep) (hpush (hpush σ A) zeroRep).length rep) ∧ hget (hset (hpush (hpush (hpush σ A) zeroRep) zeroRep) (hpush (hpush σ A) zeroRep).length rep) σ.length = some A ∧
    hget (hset (hpush (hpush (hpush σ A) zeroRep) zeroRep) (hpush (hpush σ A) zeroRep).length rep) (hpush σ A).length = some zeroRep ∧
    hget (hset (hpush (hpush (hpush σ A) zeroRep) zeroRep) (hpush (hpush σ A) zeroRep).length rep) (hpush (hpush σ A) zeroRep).length = some rep ∧
    σ.length ≤ (hpush σ A).length ∧ (hpush σ A).length < (hpush (hpush σ A) zeroRep).length ∧ σ.length < (hpush σ A).length := by
  have k1 : Kp σ (hpush σ A) := Kp.push
  have k2 : Kp (hpush σ A) (hpush (hpush σ A) zeroRep) := Kp.push
  have k3 : Kp (hpush (hpush σ A) zeroRep) (hset (hpush (hpush (hpush σ A) zeroRep) zeroRep) (hpush (hpush σ A) zeroRep).length rep) := Kp.pushSet
  have hA := k2 _ _ (push_new (σ := σ) (c := A) rfl)
  have hZ := push_new (σ := hpush σ A) (c := zeroRep) rfl
  have hR := push_new (σ := hpush (hpush σ A) zeroRep) (c := zeroRep) rfl
  exact ⟨hA, hR, k1.trans (k2.trans k3), k3 _ _ hA, k3 _ _ hZ, set_same hR, by rw [push_len]; omega, by rw [push_len (σ := hpush σ A)]; omega, by rw [push_len]; omega⟩
/-! A page. -/
def doPgK (σ : AHeap) (q : Nat) (h : HD) (frm to : Bs) (lim : Nat) (K : AV → AHeap → Prop) : Prop :=
  ∀ σ' Lr, Kp σ σ' → Grow σ' Lr 2 (recC (pgRecs h.rows frm (endS to h.t) lim)) → (∀ j c, hget σ j = some c → LvD Lr ≠ some j) →
    K (.tuple [.agg (repP q Lr (pgNext h.rows frm (endS to h.t) lim) (moreS (pgNext h.rows frm (endS to h.t) lim) to)), .bool true]) σ'
theorem do_page {S i q lim : Nat} {Lv : AV} {hs : List HD} {h : HD} {frm to : Bs} {σ : AHeap} {K : AV → AHeap → Prop} (hS : StoreAt σ S Lv hs) (hi : hs[i]? = some h) (hl : lastI hs frm hs.length = (i : Int)) (h1 : 1 ≤ lim) (h16 : lim ≤ 16) (hK : doPgK σ q h frm to lim K) :
    Tri Try.prog 19 [.ptr S 0, .agg (askP q frm to lim)] σ K := by
  refine Tri.of_s c19 U19_sound ?_
  simp only [U19_app, Z19, x19_95, x19_99, base1, ↓reduceIte, Nat.reduceAdd, Nat.reduceSub, Nat.reduceMul, Nat.reduceEqDiff, Nat.reduceLeDiff, Nat.reduceLT, Int.reduceLT, Int.reduceLE, Int.reduceEq, Int.reduceNe, Int.reduceToNat, Int.reduceAdd, Int.reduceSub, reduceCtorEq, Nat.reduceBEq, Nat.reduceBNe]
  obtain ⟨d1, d2, d3, d4, d5, d6, d7, d8, d9⟩ := do_heap σ (askP q frm to lim) (repP q .nilslice [] false)
  unfold zeroRep at d1 d2 d3 d4 d5 d6 d8
  generalize hRe : (hpush (hpush σ (askP q frm to lim)) [.int .i64 0, .int .i64 0, .int .i64 0, .bool false, .str [], .nilslice, .str [], .bool false]).length = R at d2 d3 d4 d5 d6 d8
  generalize hZe : (hpush σ (askP q frm to lim)).length = Z at d5 d7 d8 d9
  generalize hσ3 : hset (hpush (hpush (hpush σ (askP q frm to lim)) [.int .i64 0, .int .i64 0, .int .i64 0, .bool false, .str [], .nilslice, .str [], .bool false]) [.int .i64 0, .int .i64 0, .int .i64 0, .bool false, .str [], .nilslice, .str [], .bool false]) R (repP q .nilslice [] false) = σ3 at d3 d4 d5 d6
  have a0 : (askP q frm to lim)[0]? = some (.int .i64 4) := rfl
  have a1 : (askP q frm to lim)[1]? = some (.int .i64 0) := rfl
  have a2 : (askP q frm to lim)[2]? = some (.int .i64 (q : Int)) := rfl
  have a5 : (askP q frm to lim)[5]? = some (.str frm) := rfl
  have a7 : (askP q frm to lim)[7]? = some (.int .i64 (lim : Int)) := rfl
  have a8 : sub (askP q frm to lim) 0 8 = some (askP q frm to lim) := rfl
  have r8 : sub (repP q .nilslice [] false) 0 8 = some (repP q .nilslice [] false) := rfl
  have p8 : put [.int .i64 0, .int .i64 0, .int .i64 0, .bool false, .str [], .nilslice, .str [], .bool false] 0 (repP q .nilslice [] false) = some (repP q .nilslice [] false) := rfl
  have q0 : ¬ (q : Int) < 0 := by omega
  have l1 : ¬ (lim : Int) < 1 := by omega
  have l2 : ¬ (16 : Int) < (lim : Int) := by omega
  simp only [U19_app, Z19, x19_95, x19_99, base1, ↓reduceIte, Nat.reduceAdd, Nat.reduceSub, Nat.reduceMul, Nat.reduceEqDiff, Nat.reduceLeDiff, Nat.reduceLT, Int.reduceLT, Int.reduceLE, Int.reduceEq, Int.reduceNe, Int.reduceToNat, Int.reduceAdd, Int.reduceSub, reduceCtorEq, Nat.reduceBEq, Nat.reduceBNe, d1, d2, hRe, hZe, hσ3, a0, a1, a2, a5, a7, p8, q0, l1, l2, d4]
  have hS3 := d3.store hS
  refine do_at hS3 (key := frm) (X := σ.length) (Z := Z) (R := R) ⟨rfl, rfl, rfl, rfl, rfl⟩ rfl ?_
  rintro e' ⟨e0, e3, e4, e6, e7⟩ e10
  rw [hl] at e10
  have hst := hS3.st
  have ht5 : (storeC Lv)[5]? = some Lv := rfl
  have i0 : ¬ (i : Int) < 0 := by omega
  have hlt : i < hs.length := (List.getElem?_eq_some_iff.1 hi).1
  have hlt' : (i : Int) < (hs.length : Int) := by omega
  have hge0 : (0 : Int) ≤ (i : Int) := by omega
  rcases held_cases hS3 with ⟨_, h0⟩ | ⟨H, rfl, hH⟩
  · subst h0; cases hi
  · simp only [U19_app, Z19, x19_44, x19_95, x19_99, base1, ↓reduceIte, Nat.reduceAdd, Nat.reduceSub, Nat.reduceMul, Nat.reduceEqDiff, Nat.reduceLeDiff, Nat.reduceLT, Int.reduceLT, Int.reduceLE, Int.reduceEq, Int.reduceNe, Int.reduceToNat, Int.reduceAdd, Int.reduceSub, reduceCtorEq, Nat.reduceBEq, Nat.reduceBNe, e0, e3, e4, e6, e7, e10, i0, hst, ht5, hlt, hlt', hge0, Int.toNat_natCast, d4, a0, a8, d6, r8]
    have m4 : (hs.map heldC).flatten[i * 6 + 4]? = some h.Mv := held_at hi (j := 4) rfl
    have m1 : (hs.map heldC).flatten[i * 6 + 1]? = some (.str h.t) := held_at hi (j := 1) rfl
    have hm := List.mem_of_getElem? hi
    refine ⟨H, i * 6, _, h.Mv, h.rows, h.t, frm, to, q, lim, rfl, ⟨hH, m4, hS3.mv h hm, by have := hS3.sz h hm; omega⟩, m1, by omega, fun σ4 Lr k34 hg hfresh => ?_⟩
    have hZ4 := k34 _ _ d5
    have z8 : ∀ n m, put [.int .i64 0, .int .i64 0, .int .i64 0, .bool false, .str [], .nilslice, .str [], .bool false] 0 (repP q Lr n m) = some (repP q Lr n m) := fun n m => rfl
    have hcl : Lr.isCell = true := grow_cell hg
    have hZZ := fun n m => set_same (c := repP q Lr n m) hZ4
    have s8 : ∀ n m, sub (repP q Lr n m) 0 8 = some (repP q Lr n m) := fun n m => rfl
    simp only [U19_app, Z19, x19_44, x19_95, x19_99, base1, ↓reduceIte, Nat.reduceAdd, Nat.reduceSub, Nat.reduceMul, Nat.reduceEqDiff, Nat.reduceLeDiff, Nat.reduceLT, Int.reduceLT, Int.reduceLE, Int.reduceEq, Int.reduceNe, Int.reduceToNat, Int.reduceAdd, Int.reduceSub, reduceCtorEq, Nat.reduceBEq, Nat.reduceBNe, e0, e3, e4, e6, e7, e10, hZ4, z8, hcl, hZZ, s8]
    refine hK _ Lr (fun j c hj => by rw [set_other (by have := hget_lt hj; omega)]; exact k34 _ _ (d3 _ _ hj)) (grow_frame hg fun j c hj hd => by rw [set_other (fun e => hfresh Z _ d5 (by rw [hd, e]))]; exact hj) fun j c hj => hfresh j c (d3 _ _ hj)
end Go.Proofs.Ytmjnmnhpmbbmgaa.tour

/- The reference's store: what is done: a record is put. No condition. -/
set_option linter.unusedVariables false
set_option linter.unusedSimpArgs false
namespace Go.Proofs.Ytmjnmnhpmbbmgaa.tour
open Go.ChangeShapes Go.WideShapes Go.ChangeAt Go.RowKit Go.Gz Go.Gz.H

set_option maxHeartbeats 4000000
set_option maxRecDepth 10000
abbrev askW (s : Nat) (text : Bs) : List AV := [.int .i64 1, .int .i64 0, .int .i64 (s : Int), .str text, .str [], .str [], .str [], .int .i64 0]
def PutTo (hs hs' : List HD) (text : Bs) (s : Nat) : Prop :=
  (((makeS text).2 ≠ 0 ∨ lastI hs (makeS text).1 hs.length = -1) ∧ hs' = hs) ∨
  ((makeS text).2 = 0 ∧ ∃ (i : Nat) (h : HD) (Mv' Ov' : AV), lastI hs (makeS text).1 hs.length = (i : Int) ∧ hs[i]? = some h ∧ hs' = hs.set i (putH h Mv' (putS h.rows (makeS text).1 (text, [])) Ov' (some (s, fdK h.rows (makeS text).1))))
def doPutK (σ : AHeap) (S : Nat) (Lv : AV) (hs : List HD) (text : Bs) (s : Nat) (K : AV → AHeap → Prop) : Prop :=
  ∀ r σ' hs', StoreAt σ' S Lv hs' → PutTo hs hs' text s → (∀ j c, hget σ j = some c → ¬ Own S Lv hs j → hget σ' j = some c ∧ ¬ Own S Lv hs' j) → K r σ'
abbrev repW (s : Nat) (err : Int) (f : Bool) : List AV := [.int .i64 0, .int .i64 (s : Int), .int .i64 err, .bool f, .str [], .nilslice, .str [], .bool false]
/-- Behind the look at what was answered: the record is put, and noted. -/
theorem put_rest {n0 S X Z R i s : Nat} {H : Nat} {hs : List HD} {h : HD} {text key : Bs} {e : Env} {σ0 σ : AHeap} {K : AV → AHeap → Prop} (hS0 : StoreAt σ0 S (.slice H 0 hs.length none 6) hs) (k0 : Kp σ0 σ) (hi : hs[i]? = some h) (hl : lastI hs key hs.length = (i : Int))
    (hX : hget σ X = some (askW s text)) (hZ : hget σ Z = some zeroRep) (hR : hget σ R = some (repW s 0 false)) (gX : σ0.length ≤ X) (gZ : X < Z) (gR : Z < R) (hkey : key = (makeS text).1) (hm0 : (makeS text).2 = 0) (hno : nxtO h.o s = true) (hrows : h.rows.length < 1000)
    (hE : dE S X Z R key e) (e12 : e 12 = .ptr H (i * 6)) (e16 : e 16 = .int .i64 0) (hK : doPutK σ0 S (.slice H 0 hs.length none 6) hs text s K) :
    sC U19 n0 b19_99 (unw U19 n0 (RetQ [.cN 4 8, .t 5] K) .fin) e σ := by
  obtain ⟨e0, e3, e4, e6, e7⟩ := hE
  have hm := List.mem_of_getElem? hi
  have hS := k0.store hS0
  have hHσ : hget σ H = some (hs.map heldC).flatten := by
    rcases held_cases hS with ⟨e, _⟩ | ⟨H', e, hc⟩
    · cases e
    · have := (AV.slice.inj e).1; subst this; exact hc
  have m4 : (hs.map heldC).flatten[i * 6 + 4]? = some h.Mv := held_at hi (j := 4) rfl
  have m5 : (hs.map heldC).flatten[i * 6 + 5]? = some h.Ov := held_at hi (j := 5) rfl
  have hO : ∀ j, Own S (.slice H 0 hs.length none 6) hs j → j < σ0.length := fun j hj => own_lt hS0 hj
  have oH : H < σ0.length := hO H (.inr (.inl rfl))
  have oS : S < σ0.length := hO S (.inl rfl)
  have oM : ∀ d, LvD h.Mv = some d → d < σ0.length := fun d hd => hO d (.inr (.inr ⟨h, hm, .inl hd⟩))
  have oO : ∀ d, LvD h.Ov = some d → d < σ0.length := fun d hd => hO d (.inr (.inr ⟨h, hm, .inr hd⟩))
  have hMap : MapAt σ H (i * 6 + 4) (hs.map heldC).flatten h.Mv h.rows := ⟨hHσ, m4, hS.mv h hm, by omega⟩
  have hMH : LvD h.Mv ≠ some H := fun e => (hS0.ap.sh h hm H (.inl e)).2 rfl
  have hOH : LvD h.Ov ≠ some H := fun e => (hS0.ap.sh h hm H (.inr e)).2 rfl
  simp only [U19_app, Z19, x19_44, x19_95, x19_99, base1, ↓reduceIte, Nat.reduceAdd, Nat.reduceSub, Nat.reduceMul, Nat.reduceEqDiff, Nat.reduceLeDiff, Nat.reduceLT, Int.reduceLT, Int.reduceLE, Int.reduceEq, Int.reduceNe, Int.reduceToNat, Int.reduceAdd, Int.reduceSub, reduceCtorEq, Nat.reduceBEq, Nat.reduceBNe, e0, e3, e4, e6, e7, e12, e16]
  refine ⟨H, i * 6 + 4, _, h.Mv, h.rows, key, rfl, hMap, fun σ2 k02 => ?_⟩
  have hp := push_new (σ := σ2) (c := [.str [], .str []]) rfl
  have put2 : ∀ a b, put [.str [], .str []] 0 [.str a, .str b] = some [.str a, .str b] := fun a b => rfl
  have kp3 : Kp σ2 (hset (hpush σ2 [.str [], .str []]) σ2.length [.str (getS h.rows key).1, .str (getS h.rows key).2]) := Kp.pushSet
  generalize hσ3 : hset (hpush σ2 [.str [], .str []]) σ2.length [.str (getS h.rows key).1, .str (getS h.rows key).2] = σ3 at kp3
  have k03 : Kp σ σ3 := k02.trans kp3
  have hX3 := k03 _ _ hX
  have hZ3 := k03 _ _ hZ
  have hR3 := k03 _ _ hR
  have hS3 := k03.store hS
  have hH3 := k03 _ _ hHσ
  have hMap3 := k03.map hMap
  have hst := hS3.st
  have st4 : (storeC (.slice H 0 hs.length none 6))[4]? = some (.int .i64 1000) := rfl
  have hlm : lenSl h.Mv = some h.rows.length := grow_lenS ⟨hS.mv h hm, by simp⟩
  have ge : ¬ (1000 : Int) ≤ (h.rows.length : Int) := by omega
  have a0 : (askW s text)[0]? = some (.int .i64 1) := rfl
  have a3 : (askW s text)[3]? = some (.str text) := rfl
  have a4 : (askW s text)[4]? = some (.str []) := rfl
  have liveM : ∀ {σ : AHeap} {Lv : AV} {w : Nat} {rows : List (List AV)} {d : Nat}, Grow σ Lv w rows → LvD Lv = some d → ∃ c, hget σ d = some c := by
    intro σ Lv w rows d hg hd
    rcases hg with ⟨e, _⟩ | ⟨d', e, hc, _⟩
    · rw [e] at hd; cases hd
    · rw [e] at hd; cases hd; exact ⟨_, hc⟩
  have tail : ∀ (σ4 : AHeap) (Mv' : AV) (e' : Env), (∀ j c, hget σ3 j = some c → j ≠ H → hget σ4 j = some c) → (∀ j c, hget σ3 j = some c → LvD Mv' ≠ some j) → hget σ4 H = some ((hs.map heldC).flatten.set (i * 6 + 4) Mv') → Grow σ4 Mv' 3 (rowC (putS h.rows key (text, []))) →
      e' 4 = .ptr Z 0 → e' 6 = .ptr R 0 → e' 12 = .ptr H (i * 6) → sC U19 n0 b19_95 (unw U19 n0 (RetQ [.cN 4 8, .t 5] K) .fin) e' (hset σ4 R (repW s 0 (fdK h.rows key))) := by
    intro σ4 Mv' e' f1 f2 f3 f4 q4 q6 q12
    have hR4 := f1 _ _ hR3 (by omega)
    have hZ4 := f1 _ _ hZ3 (by omega)
    have hR5 := set_same (c := repW s 0 (fdK h.rows key)) hR4
    have hH5 : hget (hset σ4 R (repW s 0 (fdK h.rows key))) H = some ((hs.map heldC).flatten.set (i * 6 + 4) Mv') := by rw [set_other (by omega)]; exact f3
    have hZ5 : hget (hset σ4 R (repW s 0 (fdK h.rows key))) Z = some zeroRep := by rw [set_other (by omega)]; exact hZ4
    have fr5 : ∀ j c, hget σ0 j = some c → j ≠ H → hget (hset σ4 R (repW s 0 (fdK h.rows key))) j = some c := fun j c hj hn => by
      rw [set_other (by have := hget_lt hj; omega)]
      exact f1 _ _ (k03 _ _ (k0 _ _ hj)) hn
    have live5 : ∀ j c, hget σ0 j = some c → ∃ c', hget (hset σ4 R (repW s 0 (fdK h.rows key))) j = some c' := fun j c hj => by
      by_cases hn : j = H
      · subst hn; exact ⟨_, hH5⟩
      · exact ⟨c, fr5 j c hj hn⟩
    have mR : LvD Mv' ≠ some R := f2 _ _ hR3
    have mg5 : Grow (hset σ4 R (repW s 0 (fdK h.rows key))) Mv' 3 (rowC (putS h.rows key (text, []))) := grow_frame f4 fun j c hj hd => by rw [set_other (fun e => mR (by rw [hd, e]))]; exact hj
    generalize hset σ4 R (repW s 0 (fdK h.rows key)) = σ5 at hR5 hH5 hZ5 fr5 live5 mg5 ⊢
    have r8 : ∀ b, sub (repW s 0 b) 0 8 = some (repW s 0 b) := fun b => rfl
    simp only [U19_app, Z19, x19_44, x19_95, x19_99, base1, ↓reduceIte, Nat.reduceAdd, Nat.reduceSub, Nat.reduceMul, Nat.reduceEqDiff, Nat.reduceLeDiff, Nat.reduceLT, Int.reduceLT, Int.reduceLE, Int.reduceEq, Int.reduceNe, Int.reduceToNat, Int.reduceAdd, Int.reduceSub, reduceCtorEq, Nat.reduceBEq, Nat.reduceBNe, q4, q6, q12, hR5, r8]
    refine ⟨H, i * 6 + 5, _, h.Ov, h.o, s, fdK h.rows key, rfl, ⟨hH5, by rw [List.getElem?_set_ne (by omega)]; exact m5, grow_frame (hS0.ov h hm) fun j c hj hd => fr5 j c hj fun e => hOH (by rw [hd, e])⟩, hOH, hno, fun σ6 Ov' g1 g2 g3 g4 => ?_⟩
    have oOne : ∀ j, σ0.length ≤ j → LvD h.Ov ≠ some j := fun j hj e => by have := oO j e; omega
    have hR6 := g1 _ _ hR5 (by omega) (oOne _ (by omega))
    have hZ6 := g1 _ _ hZ5 (by omega) (oOne _ (by omega))
    have hZ7 := fun b => set_same (c := repW s 0 b) hZ6
    have z8 : ∀ b, put zeroRep 0 (repW s 0 b) = some (repW s 0 b) := fun b => rfl
    simp only [U19_app, Z19, x19_44, x19_95, x19_99, base1, ↓reduceIte, Nat.reduceAdd, Nat.reduceSub, Nat.reduceMul, Nat.reduceEqDiff, Nat.reduceLeDiff, Nat.reduceLT, Int.reduceLT, Int.reduceLE, Int.reduceEq, Int.reduceNe, Int.reduceToNat, Int.reduceAdd, Int.reduceSub, reduceCtorEq, Nat.reduceBEq, Nat.reduceBNe, q4, q6, q12, hR6, r8, hZ6, z8, hZ7]
    have mOv : ∀ d, LvD Mv' = some d → LvD h.Ov ≠ some d := fun d hd ho => by
      obtain ⟨c, hc⟩ := liveM (hS3.ov h hm) ho
      exact f2 _ _ hc hd
    have hOZ : LvD Ov' ≠ some Z := by
      rcases g2 with rfl | g2
      · exact oOne _ (by omega)
      · exact g2 _ _ hZ5
    have hMf : ∀ j c, hget σ0 j = some c → LvD Mv' ≠ some j := fun j c hj => f2 j c (k03 _ _ (k0 _ _ hj))
    have hOf : Ov' = h.Ov ∨ ∀ j c, hget σ0 j = some c → LvD Ov' ≠ some j := g2.imp _root_.id fun g2 j c hj => by
      obtain ⟨c', hc'⟩ := live5 j c hj
      exact g2 j c' hc'
    have hfr : ∀ j c, hget σ0 j = some c → j ≠ H → LvD h.Ov ≠ some j → hget (hset σ6 Z (repW s 0 (fdK h.rows key))) j = some c := fun j c hj a b => by
      rw [set_other (by have := hget_lt hj; omega)]
      exact g1 _ _ (fr5 j c hj a) a b
    have hst := put_store (rows' := putS h.rows key (text, [])) (o' := some (s, fdK h.rows key)) hS0 hi hfr hMf hOf (fun d hd ho => by
        rcases g2 with rfl | g2
        · exact mOv d hd ho
        · obtain ⟨c, hc⟩ := liveM mg5 hd
          exact g2 _ _ hc ho) (by rw [set_other (by omega)]; exact g3)
      (grow_frame mg5 fun j c hj hd => by
        rw [set_other (fun e => by subst e; exact f2 _ _ hZ3 hd)]
        exact g1 _ _ hj (fun e => by subst e; exact f2 _ _ hH3 hd) (mOv j hd))
      (grow_frame g4 fun j c hj hd => by rw [set_other (fun e => hOZ (by rw [hd, e]))]; exact hj)
      (by have := putS_len (rows := h.rows) (key := key) (r := (text, [])); omega)
    refine hK _ _ _ hst (.inr ⟨hm0, i, h, Mv', Ov', by rw [← hkey]; exact hl, hi, by rw [hkey]⟩) fun j c hj hn => ⟨hfr j c hj (fun e => hn (.inr (.inl (by rw [e]; rfl)))) fun e => hn (.inr (.inr ⟨h, hm, .inr e⟩)), put_own hi hMf hOf hj hn⟩
  have p3 : ∀ b, put (repW s 0 false) 3 [.bool b] = some (repW s 0 b) := fun b => rfl
  cases hf : fdK h.rows key with
  | true =>
    simp only [U19_app, Z19, x19_44, x19_99, base1, ↓reduceIte, Nat.reduceAdd, Nat.reduceSub, Nat.reduceMul, Nat.reduceEqDiff, Nat.reduceLeDiff, Nat.reduceLT, Int.reduceLT, Int.reduceLE, Int.reduceEq, Int.reduceNe, Int.reduceToNat, Int.reduceAdd, Int.reduceSub, reduceCtorEq, Nat.reduceBEq, Nat.reduceBNe, e0, e3, e4, e6, e7, e12, e16, hf, hp, put2, hσ3, hX3, hR3, a0, a3, a4]
    refine ⟨H, i * 6 + 4, _, h.Mv, h.rows, key, (text, []), rfl, hMap3, hMH, fun σ4 Mv' f1 f2 f3 f4 => ?_⟩
    have hR4 := f1 _ _ hR3 (by omega)
    have hX4 := f1 _ _ hX3 (by omega)
    simp only [U19_app, Z19, x19_44, x19_99, base1, ↓reduceIte, Nat.reduceAdd, Nat.reduceSub, Nat.reduceMul, Nat.reduceEqDiff, Nat.reduceLeDiff, Nat.reduceLT, Int.reduceLT, Int.reduceLE, Int.reduceEq, Int.reduceNe, Int.reduceToNat, Int.reduceAdd, Int.reduceSub, reduceCtorEq, Nat.reduceBEq, Nat.reduceBNe, e0, e3, e4, e6, e7, e12, e16, hR4, hX4, p3, a3, a4]
    exact tail σ4 Mv' _ f1 f2 f3 f4 e4 e6 e12
  | false =>
    simp only [U19_app, Z19, x19_44, x19_99, base1, ↓reduceIte, Nat.reduceAdd, Nat.reduceSub, Nat.reduceMul, Nat.reduceEqDiff, Nat.reduceLeDiff, Nat.reduceLT, Int.reduceLT, Int.reduceLE, Int.reduceEq, Int.reduceNe, Int.reduceToNat, Int.reduceAdd, Int.reduceSub, reduceCtorEq, Nat.reduceBEq, Nat.reduceBNe, e0, e3, e4, e6, e7, e12, e16, hf, hp, put2, hσ3, hX3, hR3, a0, a3, a4, hst, st4, hH3, m4, hlm, ge, Option.map_some]
    refine ⟨H, i * 6 + 4, _, h.Mv, h.rows, key, (text, []), rfl, hMap3, hMH, fun σ4 Mv' f1 f2 f3 f4 => ?_⟩
    have hR4 := f1 _ _ hR3 (by omega)
    have hX4 := f1 _ _ hX3 (by omega)
    simp only [U19_app, Z19, x19_44, x19_99, base1, ↓reduceIte, Nat.reduceAdd, Nat.reduceSub, Nat.reduceMul, Nat.reduceEqDiff, Nat.reduceLeDiff, Nat.reduceLT, Int.reduceLT, Int.reduceLE, Int.reduceEq, Int.reduceNe, Int.reduceToNat, Int.reduceAdd, Int.reduceSub, reduceCtorEq, Nat.reduceBEq, Nat.reduceBNe, e0, e3, e4, e6, e7, e12, e16, hR4, hX4, p3, a3, a4]
    exact tail σ4 Mv' _ f1 f2 f3 f4 e4 e6 e12
end Go.Proofs.Ytmjnmnhpmbbmgaa.tour

/- The reference's store: a record is put, from the call on. No condition. -/
set_option linter.unusedVariables false
set_option linter.unusedSimpArgs false
namespace Go.Proofs.Ytmjnmnhpmbbmgaa.tour
open Go.ChangeShapes Go.WideShapes Go.ChangeAt Go.RowKit Go.Gz Go.Gz.H
set_option maxHeartbeats 4000000
set_option maxRecDepth 10000
theorem do_put {S s : Nat} {Lv : AV} {hs : List HD} {text : Bs} {σ : AHeap} {K : AV → AHeap → Prop} (hS : StoreAt σ S Lv hs) (hno : ∀ h ∈ hs, nxtO h.o s = true ∧ h.rows.length < 1000) (ht : text.length ≤ 140737488351232) (hK : doPutK σ S Lv hs text s K) :
    Tri Try.prog 19 [.ptr S 0, .agg (askW s text)] σ K := by
  refine Tri.of_s c19 U19_sound ?_
  simp only [U19_app, Z19, x19_95, x19_99, base1, ↓reduceIte, Nat.reduceAdd, Nat.reduceSub, Nat.reduceMul, Nat.reduceEqDiff, Nat.reduceLeDiff, Nat.reduceLT, Int.reduceLT, Int.reduceLE, Int.reduceEq, Int.reduceNe, Int.reduceToNat, Int.reduceAdd, Int.reduceSub, reduceCtorEq, Nat.reduceBEq, Nat.reduceBNe]
  obtain ⟨d1, d2, d3, d4, d5, d6, d7, d8, d9⟩ := do_heap σ (askW s text) (repW s 0 false)
  unfold zeroRep at d1 d2 d3 d4 d5 d6 d8
  generalize hRe : (hpush (hpush σ (askW s text)) [.int .i64 0, .int .i64 0, .int .i64 0, .bool false, .str [], .nilslice, .str [], .bool false]).length = R at d2 d3 d4 d5 d6 d8
  generalize hZe : (hpush σ (askW s text)).length = Z at d5 d7 d8 d9
  generalize hσ3 : hset (hpush (hpush (hpush σ (askW s text)) [.int .i64 0, .int .i64 0, .int .i64 0, .bool false, .str [], .nilslice, .str [], .bool false]) [.int .i64 0, .int .i64 0, .int .i64 0, .bool false, .str [], .nilslice, .str [], .bool false]) R (repW s 0 false) = σ3 at d3 d4 d5 d6
  have a0 : (askW s text)[0]? = some (.int .i64 1) := rfl
  have a1 : (askW s text)[1]? = some (.int .i64 0) := rfl
  have a2 : (askW s text)[2]? = some (.int .i64 (s : Int)) := rfl
  have a3 : (askW s text)[3]? = some (.str text) := rfl
  have a4 : (askW s text)[4]? = some (.str []) := rfl
  have a5 : (askW s text)[5]? = some (.str []) := rfl
  have p8 : put [.int .i64 0, .int .i64 0, .int .i64 0, .bool false, .str [], .nilslice, .str [], .bool false] 0 (repW s 0 false) = some (repW s 0 false) := rfl
  have s0 : ¬ (s : Int) < 0 := by omega
  have hS3 := d3.store hS
  have hst := hS3.st
  have st4 : sub (storeC Lv) 0 4 = some tabC := rfl
  unfold storeC tabC at hst st4
  simp only [U19_app, Z19, x19_95, x19_99, base1, ↓reduceIte, Nat.reduceAdd, Nat.reduceSub, Nat.reduceMul, Nat.reduceEqDiff, Nat.reduceLeDiff, Nat.reduceLT, Int.reduceLT, Int.reduceLE, Int.reduceEq, Int.reduceNe, Int.reduceToNat, Int.reduceAdd, Int.reduceSub, reduceCtorEq, Nat.reduceBEq, Nat.reduceBNe, d1, d2, hRe, hZe, hσ3, a0, a1, a2, a3, a4, a5, p8, s0, d4, hst, st4]
  refine ⟨text, rfl, ht, ?_⟩
  have p2 : ∀ n : Int, put (repW s 0 false) 2 [.int .i64 n] = some (repW s n false) := fun n => rfl
  have hR4 := fun n : Int => set_same (c := repW s n false) d6
  have r8 : ∀ (n : Int) b, sub (repW s n b) 0 8 = some (repW s n b) := fun n b => rfl
  have z8 : ∀ (n : Int) b, put [.int .i64 0, .int .i64 0, .int .i64 0, .bool false, .str [], .nilslice, .str [], .bool false] 0 (repW s n b) = some (repW s n b) := fun n b => rfl
  have hZ4 : ∀ n : Int, hget (hset σ3 R (repW s n false)) Z = some [.int .i64 0, .int .i64 0, .int .i64 0, .bool false, .str [], .nilslice, .str [], .bool false] := fun n => by rw [set_other (by omega)]; exact d5
  have hZ5 := fun n : Int => set_same (c := repW s n false) (hZ4 n)
  have same : ∀ (r : AV) (n : Int), (makeS text).2 ≠ 0 ∨ lastI hs (makeS text).1 hs.length = -1 → K r (hset (hset σ3 R (repW s n false)) Z (repW s n false)) := fun r n hc => by
    have kp : Kp σ (hset (hset σ3 R (repW s n false)) Z (repW s n false)) := fun j c hj => by
      have := hget_lt hj
      rw [set_other (by omega), set_other (by omega)]; exact d3 _ _ hj
    exact hK r _ hs (kp.store hS) (.inl ⟨hc, rfl⟩) fun j c hj hn => ⟨kp _ _ hj, hn⟩
  by_cases hz : (makeS text).2 = 0
  · simp only [U19_app, Z19, x19_95, x19_99, base1, ↓reduceIte, Nat.reduceAdd, Nat.reduceSub, Nat.reduceMul, Nat.reduceEqDiff, Nat.reduceLeDiff, Nat.reduceLT, Int.reduceLT, Int.reduceLE, Int.reduceEq, Int.reduceNe, Int.reduceToNat, Int.reduceAdd, Int.reduceSub, reduceCtorEq, Nat.reduceBEq, Nat.reduceBNe, d4, hst, st4, a0, a3, a4, hz]
    refine do_at hS3 (key := (makeS text).1) (X := σ.length) (Z := Z) (R := R) ⟨rfl, rfl, rfl, rfl, rfl⟩ rfl ?_
    rintro e' ⟨e0, e3, e4, e6, e7⟩ e10
    obtain ⟨g1, g2⟩ := lastI_ge hs (makeS text).1 hs.length
    by_cases hneg : lastI hs (makeS text).1 hs.length = -1
    · rw [hneg] at e10
      simp only [U19_app, Z19, x19_44, x19_95, x19_99, base1, ↓reduceIte, Nat.reduceAdd, Nat.reduceSub, Nat.reduceMul, Nat.reduceEqDiff, Nat.reduceLeDiff, Nat.reduceLT, Int.reduceLT, Int.reduceLE, Int.reduceEq, Int.reduceNe, Int.reduceToNat, Int.reduceAdd, Int.reduceSub, reduceCtorEq, Nat.reduceBEq, Nat.reduceBNe, e0, e3, e4, e6, e7, e10, d6, p2, hR4, r8, hZ4, z8, hZ5]
      exact same _ 11 (.inr hneg)
    · obtain ⟨i, hi⟩ : ∃ i : Nat, lastI hs (makeS text).1 hs.length = (i : Int) := ⟨(lastI hs (makeS text).1 hs.length).toNat, by omega⟩
      rw [hi] at e10 g2
      have hlt : i < hs.length := by omega
      obtain ⟨h, hh⟩ : ∃ h, hs[i]? = some h := ⟨_, List.getElem?_eq_getElem hlt⟩
      have hm := List.mem_of_getElem? hh
      have i0 : ¬ (i : Int) < 0 := by omega
      have hlt' : (i : Int) < (hs.length : Int) := by omega
      have hge0 : (0 : Int) ≤ (i : Int) := by omega
      rcases held_cases hS3 with ⟨_, h0⟩ | ⟨H, rfl, hH⟩
      · subst h0; cases hh
      · have hst5 : hget σ3 S = some (storeC (.slice H 0 hs.length none 6)) := hS3.st
        have ht5 : (storeC (.slice H 0 hs.length none 6))[5]? = some (.slice H 0 hs.length none 6) := rfl
        have m5 : (hs.map heldC).flatten[i * 6 + 5]? = some h.Ov := held_at hh (j := 5) rfl
        obtain ⟨n1, n2⟩ := hno h hm
        have zp := fun τ => push_new (σ := τ) (c := [AV.int .i64 0, .int .i64 0, .int .i64 0, .bool false, .str [], .nilslice, .str [], .bool false]) rfl
        have zz : put [AV.int .i64 0, .int .i64 0, .int .i64 0, .bool false, .str [], .nilslice, .str [], .bool false] 0 [AV.int .i64 0, .int .i64 0, .int .i64 0, .bool false, .str [], .nilslice, .str [], .bool false] = some [AV.int .i64 0, .int .i64 0, .int .i64 0, .bool false, .str [], .nilslice, .str [], .bool false] := rfl
        have rest : ∀ (τ : AHeap) (e : Env), Kp σ3 τ → dE S σ.length Z R (makeS text).1 e → e 12 = .ptr H (i * 6) → e 16 = .int .i64 0 → sC U19 σ.length b19_99 (unw U19 σ.length (RetQ [.cN 4 8, .t 5] K) .fin) e τ :=
          fun τ e k3 q q12 q16 => put_rest hS (d3.trans k3) hh hi (k3 _ _ d4) (k3 _ _ d5) (k3 _ _ d6) (Nat.le_refl _) d9 d8 rfl hz n1 n2 q q12 q16 hK
        simp only [U19_app, Z19, x19_44, x19_95, base1, ↓reduceIte, Nat.reduceAdd, Nat.reduceSub, Nat.reduceMul, Nat.reduceEqDiff, Nat.reduceLeDiff, Nat.reduceLT, Int.reduceLT, Int.reduceLE, Int.reduceEq, Int.reduceNe, Int.reduceToNat, Int.reduceAdd, Int.reduceSub, reduceCtorEq, Nat.reduceBEq, Nat.reduceBNe, e0, e3, e4, e6, e7, e10, i0, hst5, ht5, hlt, hlt', hge0, Int.toNat_natCast, hH, d4, a0, a1, a2]
        have x3 := push_old (c := [AV.int .i64 0, .int .i64 0, .int .i64 0, .bool false, .str [], .nilslice, .str [], .bool false]) d4
        have kp3 : Kp σ3 (hpush σ3 [AV.int .i64 0, .int .i64 0, .int .i64 0, .bool false, .str [], .nilslice, .str [], .bool false]) := Kp.push
        have w3 := zp σ3
        refine ⟨⟨H, i * 6 + 5, _, h.Ov, h.o, s, rfl, ⟨hH, m5, hS3.ov h hm⟩, n1, fun σ4 k4 => ?_⟩, ?_⟩
        · have x4 := push_old (c := [AV.int .i64 0, .int .i64 0, .int .i64 0, .bool false, .str [], .nilslice, .str [], .bool false]) (k4 _ _ d4)
          have w4 := zp σ4
          unfold zeroRep
          simp only [U19_app, Z19, x19_44, x19_95, base1, ↓reduceIte, Nat.reduceAdd, Nat.reduceSub, Nat.reduceMul, Nat.reduceEqDiff, Nat.reduceLeDiff, Nat.reduceLT, Int.reduceLT, Int.reduceLE, Int.reduceEq, Int.reduceNe, Int.reduceToNat, Int.reduceAdd, Int.reduceSub, reduceCtorEq, Nat.reduceBEq, Nat.reduceBNe, e0, e3, e4, e6, e7, e10, x4, a1, a2, w4, zz]
          exact rest _ _ (k4.trans Kp.pushSet) ⟨e0, e3, e4, e6, e7⟩ rfl rfl
        · simp only [U19_app, Z19, x19_44, x19_95, base1, ↓reduceIte, Nat.reduceAdd, Nat.reduceSub, Nat.reduceMul, Nat.reduceEqDiff, Nat.reduceLeDiff, Nat.reduceLT, Int.reduceLT, Int.reduceLE, Int.reduceEq, Int.reduceNe, Int.reduceToNat, Int.reduceAdd, Int.reduceSub, reduceCtorEq, Nat.reduceBEq, Nat.reduceBNe, e0, e3, e4, e6, e7, e10, x3, a1, a2]
          refine ⟨H, i * 6 + 5, _, h.Ov, h.o, s, rfl, kp3.once ⟨hH, m5, hS3.ov h hm⟩, n1, fun σ4 k4 => ?_⟩
          have w4 := k4 _ _ w3
          unfold zeroRep
          simp only [U19_app, Z19, x19_44, x19_95, base1, ↓reduceIte, Nat.reduceAdd, Nat.reduceSub, Nat.reduceMul, Nat.reduceEqDiff, Nat.reduceLeDiff, Nat.reduceLT, Int.reduceLT, Int.reduceLE, Int.reduceEq, Int.reduceNe, Int.reduceToNat, Int.reduceAdd, Int.reduceSub, reduceCtorEq, Nat.reduceBEq, Nat.reduceBNe, e0, e3, e4, e6, e7, e10, w4, zz]
          refine rest _ _ (fun j c hj => ?_) ⟨e0, e3, e4, e6, e7⟩ rfl rfl
          rw [set_other (by have := hget_lt hj; omega)]
          exact k4 _ _ (kp3 _ _ hj)
  · simp only [U19_app, Z19, x19_95, x19_99, base1, ↓reduceIte, Nat.reduceAdd, Nat.reduceSub, Nat.reduceMul, Nat.reduceEqDiff, Nat.reduceLeDiff, Nat.reduceLT, Int.reduceLT, Int.reduceLE, Int.reduceEq, Int.reduceNe, Int.reduceToNat, Int.reduceAdd, Int.reduceSub, reduceCtorEq, Nat.reduceBEq, Nat.reduceBNe, d4, hst, st4, a0, a3, a4, hz, d6, p2, hR4, r8, hZ4, z8, hZ5]
    exact same _ _ (.inl hz)
end Go.Proofs.Ytmjnmnhpmbbmgaa.tour
