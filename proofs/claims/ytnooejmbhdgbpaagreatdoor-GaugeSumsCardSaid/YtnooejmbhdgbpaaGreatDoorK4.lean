/- What the heap's steps do to the relation: a new block, a block that goes, cells written. -/
import Derived.Test.YtnooejmbhdgbpaaGreatDoorK3
import Derived.Laws.CopyRow
import Derived.Laws.Tables
import Derived.Laws.StructEq
import Derived.Lib.FrozenHead
set_option linter.unusedVariables false
set_option linter.unusedSimpArgs false
namespace Go.Gz

theorem hget_some {σ : AHeap} {id : Nat} {cs : List AV} (h : hget σ id = some cs) : σ[id]? = some (some cs) := by
  unfold hget at h
  cases hh : σ[id]? with
  | none => simp [hh] at h
  | some o => rw [hh] at h; simp at h; rw [h]

theorem idx_lt {α : Type} {l : List α} {i : Nat} {x : α} (h : l[i]? = some x) : i < l.length := (List.getElem?_eq_some_iff.1 h).1

/-- ρ, with one place more. -/
def ext (σ : AHeap) (ρ : Nat → Place) (p : Place) : Nat → Place := fun id => if id = σ.length then p else ρ id

theorem ext_old {σ : AHeap} {ρ : Nat → Place} {p : Place} {id : Nat} (h : id < σ.length) : ext σ ρ p id = ρ id := by unfold ext; rw [if_neg (by omega)]
theorem ext_new (σ : AHeap) (ρ : Nat → Place) (p : Place) : ext σ ρ p σ.length = p := by unfold ext; rw [if_pos rfl]

theorem push_idx {σ : AHeap} {cs : List AV} {id : Nat} {c : List AV} (h : (hpush σ cs)[id]? = some (some c)) : (id < σ.length ∧ σ[id]? = some (some c)) ∨ (id = σ.length ∧ c = cs) := by
  unfold hpush at h
  rw [List.getElem?_append] at h
  split at h
  · exact .inl ⟨‹_›, h⟩
  · right
    have : id - σ.length = 0 := by
      have := idx_lt h; simp at this; omega
    rw [this] at h; simp at h
    exact ⟨by omega, h.symm⟩

theorem WRel.lt {σ : AHeap} {ρ : Nat → Place} {w : World} {G : Nat → Prop} (hw : WRel σ ρ w G) {id : Nat} {c : List AV} (h : σ[id]? = some (some c)) (hn : (ρ id).live) : (ρ id).blk < w.heap.size := by
  have hlt : ∀ {o : Obj}, w.heap[(ρ id).blk]? = some o → (ρ id).blk < w.heap.size := fun hh => (Array.getElem?_eq_some_iff.1 hh).1
  cases hb : (ρ id).nil with
  | false =>
    obtain ⟨_, _, _, hh, _⟩ := hw.blk id c h hb
    exact hlt hh
  | true =>
    have h1 : (ρ id).ext = 1 := hn.elim (fun h => by rw [hb] at h; cases h) _root_.id
    obtain ⟨_, _, hh, _⟩ := (hw.nil id c h hb).1 h1
    exact hlt hh

theorem WRel.owned_lt {σ : AHeap} {ρ : Nat → Place} {w : World} {G : Nat → Prop} (hw : WRel σ ρ w G) {b : Nat} (h : owned σ ρ b) : b < w.heap.size := by
  obtain ⟨id, c, h1, h2, rfl⟩ := h
  exact hw.lt h1 h2

theorem BlkRel.of {C C' : Ctx} {p : Place} {cells : List AV} (hm : ∀ x v, VRel C x v → VRel C' x v) (hb : C'.w.heap[p.blk]? = C.w.heap[p.blk]?) (h : BlkRel C p cells) : BlkRel C' p cells := by
  obtain ⟨c, t, fr, h1, h2, h3, h4, h5⟩ := h
  exact ⟨c, t, fr, hb.trans h1, h2, h3, h4, fun i x hx => let ⟨v, a, b⟩ := h5 i x hx; ⟨v, a, hm _ _ b⟩⟩

theorem NilRel.of {C C' : Ctx} {p : Place} {cells : List AV} (hm : ∀ x v, VRel C x v → VRel C' x v) (hb : p.ext = 1 → C'.w.heap[p.blk]? = C.w.heap[p.blk]?) (h : NilRel C p cells) : NilRel C' p cells := by
  refine ⟨fun he => ?_, h.2⟩
  obtain ⟨es, clock, h1, h2, h3, h4⟩ := h.1 he
  exact ⟨es, clock, (hb he).trans h1, ⟨h2.1, fun i x v hx hv => hm _ _ (h2.2 i x v hx hv)⟩, h3, h4⟩

theorem Place.live_map {p : Place} (h : p.ext = 1) : p.live := .inr h
theorem Place.live_row {p : Place} (h : p.nil = false) : p.live := .inl h

/-- A block goes: of it nothing is told any more. -/
theorem kill_keeps (σ : AHeap) (ρ : Nat → Place) (w : World) (id : Nat) : Keeps σ ρ w (hkill σ id) ρ w where
  os := rfl
  tape := rfl
  output := rfl
  size := Nat.le_refl _
  frame _ _ _ := rfl
  own b h := by
    obtain ⟨i, c, h1, h2, h3⟩ := h
    unfold hkill at h1
    rw [List.getElem?_set] at h1
    split at h1
    · split at h1 <;> simp at h1
    · exact .inl ⟨i, c, h1, h2, h3⟩
  len := by simp [hkill]
  rho _ _ := rfl

theorem kill_idx {σ : AHeap} {id i : Nat} {c : List AV} (h : (hkill σ id)[i]? = some (some c)) : i ≠ id ∧ σ[i]? = some (some c) := by
  unfold hkill at h
  rw [List.getElem?_set] at h
  split at h
  · split at h <;> simp at h
  · exact ⟨fun e => by simp_all, h⟩

theorem kill_wrel {σ : AHeap} {ρ : Nat → Place} {w : World} {G : Nat → Prop} (hw : WRel σ ρ w G) (id : Nat) : WRel (hkill σ id) ρ w G where
  blk i c h hn := by
    obtain ⟨h1, h2⟩ := kill_idx h
    exact (hw.blk i c h2 hn).of (fun x v hx => hx.keeps hw (kill_keeps σ ρ w id)) rfl
  nil i c h hn := (hw.nil i c (kill_idx h).2 hn).of (fun x v hx => hx.keeps hw (kill_keeps σ ρ w id)) (fun _ => rfl)
  excl i i' c c' h h' := hw.excl i i' c c' (kill_idx h).2 (kill_idx h').2
  sep i c h := hw.sep i c (kill_idx h).2
  gsz := hw.gsz
  glob := hw.glob.keeps (kill_keeps σ ρ w id)

/-- A new block: of the world, and of the abstract heap. -/
theorem push_keeps {σ : AHeap} {ρ : Nat → Place} {w : World} {G : Nat → Prop} (hw : WRel σ ρ w G) (cells : List AV) (o : Obj) (p : Place) (hp : p.live → w.heap.size ≤ p.blk) (d : Nat) :
    Keeps σ ρ w (hpush σ cells) (ext σ ρ p) { w with heap := w.heap.push o, drawn := d } where
  os := rfl
  tape := rfl
  output := rfl
  size := by simp
  frame b hb _ := by simp only [Array.getElem?_push]; rw [if_neg (by omega)]
  own b h := by
    obtain ⟨i, c, h1, h2, h3⟩ := h
    rcases push_idx h1 with ⟨hi, h1⟩ | ⟨rfl, rfl⟩
    · rw [ext_old hi] at h2 h3; exact .inl ⟨i, c, h1, h2, h3⟩
    · rw [ext_new] at h2 h3; have := hp h2; exact .inr (by omega)
  len := by simp [hpush]
  rho id h := ext_old h

theorem push_wrel {σ : AHeap} {ρ : Nat → Place} {w : World} {G : Nat → Prop} (hw : WRel σ ρ w G) (cells : List AV) (c : Array Value) (t : TypeId) (fr : Nat × Nat) (d : Nat)
    (hfr : (∀ i, i < c.size → ¬ (fr.1 ≤ i ∧ i < fr.2)) ∧ fr.1 ≤ fr.2) (hl : cells.length ≤ c.size)
    (hc : ∀ (i : Nat) x, cells[i]? = some x → ∃ v, c[i]? = some v ∧ VRel (ctx σ ρ w G) x v) :
    WRel (hpush σ cells) (ext σ ρ ⟨w.heap.size, 0, c.size, false, t⟩) { w with heap := w.heap.push (.cells c t fr), drawn := d } G := by
  have hk := push_keeps hw cells (.cells c t fr) ⟨w.heap.size, 0, c.size, false, t⟩ (fun _ => Nat.le_refl _) d
  refine ⟨fun i cs h hn => ?_, fun i cs h hn => ?_, fun i i' cs cs' h h' hn hn' he => ?_, fun i cs h hn => ?_, fun b hb => ?_, hw.glob.keeps hk⟩
  · rcases push_idx h with ⟨hi, h1⟩ | ⟨rfl, rfl⟩
    · rw [ext_old hi] at hn ⊢
      have hlt := hw.lt h1 (.inl hn)
      refine (hw.blk i cs h1 hn).of (fun x v hx => hx.keeps hw hk) ?_
      show (w.heap.push _)[_]? = _
      rw [Array.getElem?_push, if_neg (by omega)]; rfl
    · rw [ext_new]
      refine ⟨c, t, fr, ?_, by simp, ⟨hl, rfl⟩, hfr, fun i x hx => ?_⟩
      · show (w.heap.push _)[w.heap.size]? = _
        simp
      · obtain ⟨v, h1, h2⟩ := hc i x hx
        exact ⟨v, by simpa using h1, h2.keeps hw hk⟩
  · rcases push_idx h with ⟨hi, h1⟩ | ⟨rfl, rfl⟩
    · rw [ext_old hi] at hn ⊢
      refine (hw.nil i cs h1 hn).of (fun x v hx => hx.keeps hw hk) (fun he => ?_)
      have hlt := hw.lt h1 (.inr he)
      show (w.heap.push _)[_]? = _
      rw [Array.getElem?_push, if_neg (by omega)]; rfl
    · rw [ext_new] at hn; simp at hn
  · rcases push_idx h with ⟨hi, h1⟩ | ⟨rfl, rfl⟩ <;> rcases push_idx h' with ⟨hi', h1'⟩ | ⟨rfl, rfl⟩
    · rw [ext_old hi] at hn he; rw [ext_old hi'] at hn' he; exact hw.excl i i' cs cs' h1 h1' hn hn' he
    · rw [ext_old hi] at hn he; rw [ext_new] at he; have := hw.lt h1 hn; simp at he; omega
    · rw [ext_old hi'] at hn' he; rw [ext_new] at he; have := hw.lt h1' hn'; simp at he; omega
    · rfl
  · rcases push_idx h with ⟨hi, h1⟩ | ⟨rfl, rfl⟩
    · rw [ext_old hi] at hn ⊢; exact hw.sep i cs h1 hn
    · rw [ext_new]; intro hg; have := hw.gsz _ hg; simp at this
  · have := hw.gsz b hb; simp; omega

/-- A new block of the abstract heap of which there is nothing in the world: a slice that has nothing. -/
theorem void_wrel {σ : AHeap} {ρ : Nat → Place} {w : World} {G : Nat → Prop} (hw : WRel σ ρ w G) : WRel (hpush σ []) (ext σ ρ ⟨0, 0, 0, true, 0⟩) w G ∧ Keeps σ ρ w (hpush σ []) (ext σ ρ ⟨0, 0, 0, true, 0⟩) w := by
  have hk : Keeps σ ρ w (hpush σ []) (ext σ ρ ⟨0, 0, 0, true, 0⟩) w := by
    refine ⟨rfl, rfl, rfl, Nat.le_refl _, fun _ _ _ => rfl, fun b h => ?_, by simp [hpush], fun id h => ext_old h⟩
    obtain ⟨i, c, h1, h2, h3⟩ := h
    rcases push_idx h1 with ⟨hi, h1⟩ | ⟨rfl, rfl⟩
    · rw [ext_old hi] at h2 h3; exact .inl ⟨i, c, h1, h2, h3⟩
    · rw [ext_new] at h2; simp [Place.live] at h2
  refine ⟨⟨fun i cs h hn => ?_, fun i cs h hn => ?_, fun i i' cs cs' h h' hn hn' he => ?_, fun i cs h hn => ?_, hw.gsz, hw.glob.keeps hk⟩, hk⟩
  · rcases push_idx h with ⟨hi, h1⟩ | ⟨rfl, rfl⟩
    · rw [ext_old hi] at hn ⊢
      exact (hw.blk i cs h1 hn).of (fun x v hx => hx.keeps hw hk) rfl
    · rw [ext_new] at hn; simp at hn
  · rcases push_idx h with ⟨hi, h1⟩ | ⟨rfl, rfl⟩
    · rw [ext_old hi] at hn ⊢; exact (hw.nil i cs h1 hn).of (fun x v hx => hx.keeps hw hk) (fun _ => rfl)
    · rw [ext_new]; exact ⟨fun h => by simp at h, fun _ => rfl⟩
  · rcases push_idx h with ⟨hi, h1⟩ | ⟨rfl, rfl⟩ <;> rcases push_idx h' with ⟨hi', h1'⟩ | ⟨rfl, rfl⟩
    · rw [ext_old hi] at hn he; rw [ext_old hi'] at hn' he; exact hw.excl i i' cs cs' h1 h1' hn hn' he
    · rw [ext_new] at hn'; simp [Place.live] at hn'
    · rw [ext_new] at hn; simp [Place.live] at hn
    · rfl
  · rcases push_idx h with ⟨hi, h1⟩ | ⟨rfl, rfl⟩
    · rw [ext_old hi] at hn ⊢; exact hw.sep i cs h1 hn
    · rw [ext_new] at hn; simp [Place.live] at hn

theorem set_idx {σ : AHeap} {id i : Nat} {cs c : List AV} (h : (hset σ id cs)[i]? = some (some c)) : (i ≠ id ∧ σ[i]? = some (some c)) ∨ (i = id ∧ c = cs) := by
  unfold hset at h
  rw [List.getElem?_set] at h
  split at h
  · split at h <;> simp at h
    exact .inr ⟨by omega, h.symm⟩
  · exact .inl ⟨by omega, h⟩

theorem setRow_other (w : World) (g k : Nat) (cs : Array Value) (h : k ≠ g) : (w.setRow g cs).heap[k]? = w.heap[k]? := by
  simp only [World.setRow, Array.getElem?_modify]
  rw [if_neg (by omega)]

theorem setRow_size (w : World) (g : Nat) (cs : Array Value) : (w.setRow g cs).heap.size = w.heap.size := by simp [World.setRow]

/-- A block of the call's own is written over. -/
theorem set_wrel {σ : AHeap} {ρ : Nat → Place} {w : World} {G : Nat → Prop} (hw : WRel σ ρ w G) {id : Nat} {old cells : List AV} (h : σ[id]? = some (some old)) (hn : (ρ id).nil = false)
    {c c' : Array Value} {t : TypeId} {fr : Nat × Nat} (hb : w.heap[(ρ id).blk]? = some (.cells c t fr)) (hs : c'.size = c.size) (hl : cells.length ≤ (ρ id).ext)
    (hc : ∀ (i : Nat) x, cells[i]? = some x → ∃ v, c'[(ρ id).off + i]? = some v ∧ VRel (ctx σ ρ w G) x v) :
    WRel (hset σ id cells) ρ (w.setRow (ρ id).blk c') G ∧ Keeps σ ρ w (hset σ id cells) ρ (w.setRow (ρ id).blk c') := by
  have hk : Keeps σ ρ w (hset σ id cells) ρ (w.setRow (ρ id).blk c') := by
    refine ⟨rfl, rfl, rfl, by rw [setRow_size]; exact Nat.le_refl _, fun b hb' hno => ?_, fun b hb' => ?_, by simp [hset], fun _ _ => rfl⟩
    · exact setRow_other _ _ _ _ (fun e => hno ⟨id, old, h, .inl hn, e.symm⟩)
    · obtain ⟨i, k, h1, h2, h3⟩ := hb'
      rcases set_idx h1 with ⟨hi, h1⟩ | ⟨rfl, rfl⟩
      · exact .inl ⟨i, k, h1, h2, h3⟩
      · exact .inl ⟨i, old, h, h2, h3⟩
  refine ⟨⟨fun i cs h' hn' => ?_, fun i cs h' hn' => ?_, fun i i' cs cs' h1 h2 hn1 hn2 he => ?_, fun i cs h' hn' => ?_, fun b hb' => ?_, hw.glob.keeps hk⟩, hk⟩
  · rcases set_idx h' with ⟨hi, h1⟩ | ⟨rfl, rfl⟩
    · refine (hw.blk i cs h1 hn').of (fun x v hx => hx.keeps hw hk) (setRow_other _ _ _ _ (fun e => hi (hw.excl _ _ _ _ h1 h (.inl hn') (.inl hn) e)))
    · obtain ⟨c0, t0, fr0, k1, k2, k3, k4, k5⟩ := hw.blk i old h hn
      have e : c0 = c ∧ t0 = t ∧ fr0 = fr := by
        have : some (Obj.cells c0 t0 fr0) = some (Obj.cells c t fr) := k1.symm.trans hb
        simpa using this
      obtain ⟨rfl, rfl, rfl⟩ := e
      refine ⟨c', t0, fr0, setRow_heap w _ c0 c' t0 fr0 hb, by rw [hs]; exact k2, ⟨hl, k3.2⟩, by rw [hs]; exact k4, fun j x hx => ?_⟩
      obtain ⟨v, a, b⟩ := hc j x hx
      exact ⟨v, a, b.keeps hw hk⟩
  · rcases set_idx h' with ⟨hi, h1⟩ | ⟨rfl, rfl⟩
    · exact (hw.nil i cs h1 hn').of (fun x v hx => hx.keeps hw hk) (fun he => setRow_other _ _ _ _ (fun e => hi (hw.excl _ _ _ _ h1 h (.inr he) (.inl hn) e)))
    · rw [hn] at hn'; cases hn'
  · have g : ∀ {j : Nat} {k : List AV}, (hset σ id cells)[j]? = some (some k) → ∃ k', σ[j]? = some (some k') := by
      intro j k hj
      rcases set_idx hj with ⟨_, h1⟩ | ⟨rfl, rfl⟩
      · exact ⟨_, h1⟩
      · exact ⟨_, h⟩
    obtain ⟨k1, e1⟩ := g h1
    obtain ⟨k2, e2⟩ := g h2
    exact hw.excl i i' k1 k2 e1 e2 hn1 hn2 he
  · rcases set_idx h' with ⟨hi, h1⟩ | ⟨rfl, rfl⟩
    · exact hw.sep i cs h1 hn'
    · exact hw.sep i old h (.inl hn)
  · rw [setRow_size]; exact hw.gsz b hb'

/-- Cells of a row stored one behind the other, none of which is frozen. -/
theorem run_storeCells_row (P : Program) (g o : Nat) (t : TypeId) (fz : Nat × Nat) : ∀ (vs : List Value) (i : Nat) (cur : Array Value) (w : World), w.heap[g]? = some (.cells cur t fz) → (∀ j, j < cur.size → ¬ (fz.1 ≤ j ∧ j < fz.2)) → o + i + vs.length ≤ cur.size → (∀ v ∈ vs, v.oneCell' = true) →
    (storeCells ⟨g, o, none⟩ vs i).run P w = .ok () (w.setRow g (cur.toList.take (o + i) ++ vs ++ cur.toList.drop (o + i + vs.length)).toArray)
  | [], i, cur, w, hg, _, _, _ => by
    simp only [storeCells, List.append_nil, List.length_nil, Nat.add_zero, List.take_append_drop, Array.toArray_toList]
    rw [setRow_self w g cur t fz hg]
    rfl
  | v :: rest, i, cur, w, hg, hfz, hl, h1 => by
    have hi : o + i < cur.size := by simp at hl; omega
    have hadd : (⟨g, o, none⟩ : Addr).add i = ⟨g, o + i, none⟩ := by unfold Addr.add; split <;> simp_all
    have hcell : w.cell? ⟨g, o + i, none⟩ = some cur[o + i] := by simp [World.cell?, hg, hi]
    have hfro : w.frozen? ⟨g, o + i, none⟩ = false := by
      obtain ⟨lo, hi'⟩ := fz
      have := hfz (o + i) hi
      simp only [World.frozen?, hg, Bool.and_eq_false_iff, decide_eq_false_iff_not]
      simp only at this
      omega
    have hst : (store ((⟨g, o, none⟩ : Addr).add i) v).run P w = .ok () (w.setRow g (cur.setIfInBounds (o + i) v)) := by
      rw [hadd, run_store P w _ v _ (h1 v (by simp)), hcell]
      simp [hfro, setCell_eq_setRow w g (o + i) cur t fz v hg]
    have ih := run_storeCells_row P g o t fz rest (i + 1) (cur.setIfInBounds (o + i) v) (w.setRow g (cur.setIfInBounds (o + i) v)) (setRow_heap w g cur _ t _ hg) (by simpa using hfz) (by simp at hl ⊢; omega) (fun x hx => h1 x (by simp [hx]))
    simp only [storeCells, Sem.run_bind, hst, Result.andThen_ok, ih, setRow_setRow]
    congr 3
    have e := list_seg_step cur.toList (o + i) v rest (by simp at hl ⊢; omega)
    simpa [Array.toList_setIfInBounds, Nat.add_assoc] using e

end Go.Gz
