/- Small rows make notes that are not too great; how the law reads its rows. No condition. -/
import Derived.Test.YtgaopohogdinhaaGreatDoorTC
set_option linter.unusedVariables false
set_option linter.unusedSimpArgs false
namespace Go.Proofs.YtgaopohogdinhaaGreatDoor.note
open Go.ChangeShapes Go.WideShapes Go.ChangeAt Go.RowKit Go.Gz
set_option maxHeartbeats 4000000
set_option maxRecDepth 10000

/-! Sizes. -/
theorem total2 (a b : List UInt8) : total [a, b] = (4 + a.length) + (4 + b.length) := by simp only [total, List.flatMap_cons, List.flatMap_nil, List.append_nil, List.length_append, txt, u32_len]
theorem txt_len (s : List UInt8) : (txt s).length = 4 + s.length := by simp only [txt, List.length_append, u32_len]
theorem list_tot : ∀ l : List (List UInt8 × List UInt8), ((l.flatMap txt2).length : Int) = 8 * l.length + sumL l
  | [] => rfl
  | p :: l => by
    have := list_tot l
    have e : sumL (p :: l) = (p.1.length : Int) + p.2.length + sumL l := by simp [sumL]
    rw [e]
    simp only [List.flatMap_cons, List.length_append, txt2, txt, u32_len, List.length_cons]
    omega
theorem flat_le {α : Type} {f : α → List UInt8} {c : Nat} : ∀ {l : List α}, (∀ x ∈ l, (f x).length ≤ c) → (l.flatMap f).length ≤ l.length * c
  | [], _ => by simp
  | x :: l, h => by
    have h1 := flat_le (f := f) (c := c) (l := l) fun y hy => h y (by simp [hy])
    have h2 := h x (by simp)
    simp only [List.flatMap_cons, List.length_append, List.length_cons, Nat.add_mul]; omega
theorem sum_nonneg (l : List (List UInt8 × List UInt8)) : 0 ≤ sumL l := by
  have := list_tot l
  by_cases h : 0 ≤ sumL l
  · exact h
  · have h1 : sumL l = ((l.flatMap txt2).length : Int) - 8 * l.length := by omega
    have : ∀ l : List (List UInt8 × List UInt8), 8 * l.length ≤ (l.flatMap txt2).length := by
      intro l
      induction l with
      | nil => simp
      | cons p l ih => simp only [List.flatMap_cons, List.length_append, txt2, txt_len, List.length_cons]; omega
    have := this l
    omega
theorem sum_mem {l : List (List UInt8 × List UInt8)} {p : List UInt8 × List UInt8} (h : p ∈ l) : (p.1.length : Int) + p.2.length ≤ sumL l := by
  obtain ⟨a, b, rfl⟩ := List.append_of_mem h
  have h1 := sum_nonneg a
  have h2 := sum_nonneg b
  have e : sumL (a ++ p :: b) = sumL a + ((p.1.length : Int) + p.2.length + sumL b) := by simp [sumL, List.sum_append]
  rw [e]; omega
theorem rep_small_len {a : RepV} (h : a.small = true) : a.bytes.length ≤ 60000 := by
  simp only [RepV.small, Bool.and_eq_true, decide_eq_true_eq] at h
  have := list_tot a.l
  have h3 := sum_nonneg a.l
  simp only [RepV.bytes, RepV.head, tb, List.length_append, List.flatMap_cons, List.flatMap_nil, txt_len, u32_len, List.length_nil, List.length_cons]
  omega
theorem txt2_len (p : List UInt8 × List UInt8) : (txt2 p).length = 8 + p.1.length + p.2.length := by simp only [txt2, List.length_append, txt_len]; omega
theorem sh_len (s : ShV) : s.bytes.length = 16 + s.from_.length + s.to.length := by
  simp only [ShV.bytes, List.flatMap_cons, List.flatMap_nil, List.append_nil, List.length_append, txt_len, u32_len]; omega
theorem la_len {x : LaV} (h : x.rep.small = true) : x.bytes.length ≤ 60010 := by
  have := rep_small_len h
  simp only [LaV.bytes, List.flatMap_cons, List.flatMap_nil, List.append_nil, List.length_append, txt_len, u32_len]
  by_cases hb : x.rep.bad = true
  · rw [if_pos hb]; simp
  · rw [if_neg hb]; omega
theorem made_sz {r : RowV} (h : r.smallP) : (made r).sz := by
  have h0 := h.sum
  have h1 := sum_nonneg r.l
  have h2 := sum_nonneg (r.sh.map ShV.span)
  have h3 := h.sh
  have h4 := h.l
  have h5 := h.lal
  have h6 := h.shl
  simp only [RowV.base] at h0
  have r1 : ∀ x ∈ r.l, (txt2 x).length ≤ 20008 := fun x hx => by
    have := sum_mem hx
    rw [txt2_len]; omega
  have s1 : ∀ x ∈ r.sh, x.bytes.length ≤ 3016 := fun x hx => by
    have := sum_mem (List.mem_map_of_mem (f := ShV.span) hx)
    simp only [ShV.span] at this
    rw [sh_len]; omega
  refine ⟨?_, ?_, ?_, ?_, ?_, ?_, ?_, ?_, ?_, ?_, ?_, ?_⟩
  · simp only [total, made, AskV.texts, List.flatMap_cons, List.flatMap_nil, List.append_nil, List.length_append, txt_len]; omega
  · have := rep_small_len h.rep; show r.rep.bytes.length ≤ _; omega
  · show total [r.sf, r.st] ≤ _; rw [total2]; omega
  · show r.l.length ≤ _; omega
  · show (r.last.map mkLa).length ≤ _; simp; omega
  · show r.sh.length ≤ _; omega
  · intro x hx; have := r1 x hx; omega
  · intro x hx
    obtain ⟨y, hy, rfl⟩ := List.mem_map.1 hx
    have := rep_small_len (h.last y hy)
    show y.bytes.length ≤ _; omega
  · intro x hx; have := s1 x hx; omega
  · have := flat_le (f := fun x => txt (txt2 x)) (c := 20012) (l := r.l) fun x hx => by rw [txt_len]; have := r1 x hx; omega
    show (r.l.flatMap _).length ≤ _; omega
  · have := flat_le (f := fun x : LaV => txt x.bytes) (c := 60014) (l := r.last.map mkLa) fun x hx => by
      obtain ⟨y, hy, rfl⟩ := List.mem_map.1 hx
      rw [txt_len]; have := la_len (x := mkLa y) (h.last y hy); omega
    rw [List.length_map] at this
    show ((r.last.map mkLa).flatMap _).length ≤ _; omega
  · have := flat_le (f := fun x : ShV => txt x.bytes) (c := 3020) (l := r.sh) fun x hx => by rw [txt_len]; have := s1 x hx; omega
    show (r.sh.flatMap _).length ≤ _; omega
abbrev zN : List AV := [.int .i64 0, .int .i64 0, .int .i64 0, .int .i64 0, .int .i64 0, .int .i64 0, .int .i64 0, .int .i64 0, .str [], .str [], .str [], .str [], .int .i64 0, .int .i64 0, .int .i64 0, .int .i64 0, .bool false, .str [], .nilslice, .str [], .bool false, .str [], .str [], .nilslice, .nilslice, .int .i64 0, .nilslice]
theorem sub_note (n : NoteV) : sub n.cells 0 27 = some n.cells := rfl
theorem sub_row (r : RowV) : sub r.cells 0 27 = some r.cells := rfl
theorem nc_len (n : NoteV) : n.cells.length = 27 := rfl
theorem nc_cell (n : NoteV) : (n.cells.all fun x => x.isCell) = true := rfl
theorem put_note (n : NoteV) : put [.int .i64 0, .int .i64 0, .int .i64 0, .int .i64 0, .int .i64 0, .int .i64 0, .int .i64 0, .int .i64 0, .str [], .str [], .str [], .str [], .int .i64 0, .int .i64 0, .int .i64 0, .int .i64 0, .bool false, .str [], .nilslice, .str [], .bool false, .str [], .str [], .nilslice, .nilslice, .int .i64 0, .nilslice] 0 n.cells = some n.cells := rfl
theorem put_note2 (n m : NoteV) : put m.cells 0 n.cells = some n.cells := rfl
theorem row_inj {a b : RowV} (h : AV.agg a.cells = .agg b.cells) : a = b := by
  simp only [RowV.cells, AV.agg.injEq, List.cons.injEq, AV.int.injEq, AV.bool.injEq, AV.str.injEq, AV.imm.injEq, and_true, true_and] at h
  obtain ⟨h1, h2, h3, h4, h5, a1, a2, a3, a4, a5, a6, a7, a8, r1, r2, r3, r4, r5, r6, r7, r8, s1, s2, l1, l2, e1, l3⟩ := h
  have r6 := recs_inj r6
  have l1 := map_inj recC_inj l1
  have l2 := map_inj (fun x y hxy => rep_inj (by rw [hxy])) l2
  have l3 := map_inj sh_inj l3
  obtain ⟨k, f, t, ep, ti, ⟨b1, b2, b3, b4, b5, b6, b7, b8⟩, ⟨c1, c2, c3, c4, c5, c6, c7, c8⟩, sf, st, l, la, ae, sh⟩ := a
  obtain ⟨k', f', t', ep', ti', ⟨b1', b2', b3', b4', b5', b6', b7', b8'⟩, ⟨c1', c2', c3', c4', c5', c6', c7', c8'⟩, sf', st', l', la', ae', sh'⟩ := b
  simp only at *
  subst h1 h2 h3 h4 h5 a1 a2 a3 a4 a5 a6 a7 a8 r1 r2 r3 r4 r5 r6 r7 r8 s1 s2 l1 l2 e1 l3
  rfl
theorem madeD_eq {r : RowV} {σ : AHeap} {K : AV → AHeap → Prop} : madeD [.agg r.cells] σ K = (r.last.length ≤ 1000000 ∧ r.sh.length ≤ 1000000 ∧ K (.agg (made r).cells) σ) := by
  apply propext
  refine ⟨fun ⟨m, h1, h2, h3, h4⟩ => ?_, fun h => ⟨r, rfl, h.1, h.2.1, h.2.2⟩⟩
  have : r = m := row_inj (List.cons.inj h1).1
  subst this
  exact ⟨h2, h3, h4⟩
end Go.Proofs.YtgaopohogdinhaaGreatDoor.note
