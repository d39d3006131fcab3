/- append, copy, conversions between texts and bytes. -/
import Derived.Test.YtnooejmbhdgbpaaGreatDoorK9
set_option linter.unusedVariables false
set_option linter.unusedSimpArgs false
namespace Go.Gz

section
variable {P : Program} {σ : AHeap} {ρ : Nat → Place} {w : World} {G : Nat → Prop}

theorem flatten_idx {α : Type} (esz : Nat) (h0 : 0 < esz) : ∀ (rows : List (List α)) (k : Nat) (x : α), (∀ r ∈ rows, r.length = esz) → rows.flatten[k]? = some x → ∃ row, rows[k / esz]? = some row ∧ row[k % esz]? = some x
  | [], k, x, _, h => by simp at h
  | r :: rows, k, x, hr, h => by
    have hl := hr r (by simp)
    rw [List.flatten_cons, List.getElem?_append] at h
    split at h
    · rename_i hk
      rw [hl] at hk
      refine ⟨r, by rw [Nat.div_eq_of_lt hk]; rfl, by rw [Nat.mod_eq_of_lt hk]; exact h⟩
    · rename_i hk
      rw [hl] at hk h
      obtain ⟨row, h1, h2⟩ := flatten_idx esz h0 rows (k - esz) x (fun r' hr' => hr r' (by simp [hr'])) h
      have e1 : k / esz = (k - esz) / esz + 1 := Nat.div_eq_sub_div h0 (by omega)
      have e2 : k % esz = (k - esz) % esz := Nat.mod_eq_sub_mod (by omega)
      exact ⟨row, by rw [e1]; simpa using h1, by rw [e2]; exact h2⟩

theorem flatten_length {α : Type} (esz : Nat) : ∀ (rows : List (List α)), (∀ r ∈ rows, r.length = esz) → rows.flatten.length = rows.length * esz
  | [], _ => by simp
  | r :: rows, h => by
    rw [List.flatten_cons, List.length_append, h r (by simp), flatten_length esz rows (fun r' hr' => h r' (by simp [hr'])), List.length_cons, Nat.succ_mul, Nat.add_comm]

/-- Cells at an address, read one behind the other, however many draws there were. -/
theorem run_loadCells_dr {P : Program} {w : World} {C : Ctx} {b o : Nat} {xs : List AV} (h : ∀ (j : Nat) x, xs[j]? = some x → ∃ v, w.cell? ⟨b, o + j, none⟩ = some v ∧ VRel C x v) :
    ∃ vs : Array Value, (∀ dr, (loadCells ⟨b, o, none⟩ xs.length).run P { w with drawn := dr } = .ok vs { w with drawn := dr }) ∧ LRel C xs vs.toList := by
  refine ⟨((List.range xs.length).map fun j => (w.cell? ⟨b, o + j, none⟩).getD undef).toArray, fun dr => ?_, ?_⟩
  · rw [run_loadCells { w with drawn := dr } ⟨b, o, none⟩ xs.length (fun j => (w.cell? ⟨b, o + j, none⟩).getD undef)]
    intro j hj
    obtain ⟨v, hv, _⟩ := h j xs[j] (by simp [hj])
    rw [addr_add]
    show w.cell? _ = _
    rw [hv]; rfl
  · refine ⟨by simp, fun i x v hx hv => ?_⟩
    obtain ⟨u, hu, hr⟩ := h i x hx
    have hi := idx_lt hx
    simp [hi, hu] at hv
    subst hv; exact hr

/-- The cells of a slice's elements, read. -/
theorem elemsOf_ok {esz n : Nat} {x : AV} {v : Value} {xs : List AV} (hw : WRel σ ρ w G) (hs0 : esz ≠ 0) (hx : VRel (ctx σ ρ w G) x v) (h : elemsOf σ esz x = some xs) (hn : lenOf x = some n) :
    xs.length = n * esz ∧ ∃ cs : Array Value, (∀ dr, (Builtin.firstCells esz n v).run P { w with drawn := dr } = .ok cs { w with drawn := dr }) ∧ LRel (ctx σ ρ w G) xs cs.toList := by
  cases hx with
  | nilslice =>
    simp [elemsOf] at h; simp [lenOf] at hn; subst h; subst hn
    exact ⟨by simp, #[], fun dr => by simp [Builtin.firstCells], .nil _⟩
  | slice id off len cap e' b o c i1 i2 i3 i4 i5 =>
    simp only [elemsOf] at h
    simp only [lenOf, Option.some.injEq] at hn
    subst hn
    split at h
    case isFalse => cases h
    rename_i he
    subst he
    cases hg : hget σ id with
    | none => simp [hg] at h
    | some cs =>
      simp [hg] at h
      have hl := sub_length h
      refine ⟨hl, ?_⟩
      rcases Nat.eq_zero_or_pos len with h0 | h0
      · subst h0
        have : xs = [] := by cases xs with | nil => rfl | cons => simp at hl
        subst this
        exact ⟨#[], fun dr => by simp [Builtin.firstCells, loadCells, loadCellsFrom], .nil _⟩
      · obtain ⟨q1, q2, q3⟩ := i5 (by omega)
        subst q1; subst q2
        have := run_loadCells_dr (P := P) (w := w) (C := ctx σ ρ w G) (b := (ρ id).blk) (o := (ρ id).off + off) (xs := xs) (fun j y hy => by
          obtain ⟨u, h1, h2⟩ := blk_cell hw (hget_some hg) i2 (sub_idx h hy).1
          exact ⟨u, by rw [Nat.add_assoc]; exact h1, h2⟩)
        rw [hl] at this
        exact this
  | sliceNil id off cap e' a i1 i2 i3 i4 =>
    simp only [elemsOf] at h
    simp only [lenOf, Option.some.injEq] at hn
    subst hn
    split at h
    case isFalse => cases h
    cases hg : hget σ id with
    | none => simp [hg] at h
    | some cs =>
      simp [hg] at h
      have hl := sub_length h
      have : xs = [] := by cases xs with | nil => rfl | cons => simp at hl
      subst this
      refine ⟨by simp, #[], fun dr => ?_, .nil _⟩
      cases a <;> simp [Builtin.firstCells, loadCells, loadCellsFrom]
  | imm rows full nn b o c e' f i1 i2 i3 i4 i5 =>
    simp only [elemsOf] at h
    simp only [lenOf, Option.some.injEq] at hn
    subst hn
    split at h
    case isFalse => cases h
    rename_i hall
    cases h
    have hrl : ∀ r ∈ rows, r.length = esz := fun r hr => by have := List.all_eq_true.1 hall r hr; simpa using this
    have hl := flatten_length esz rows hrl
    refine ⟨hl, ?_⟩
    have := run_loadCells_dr (P := P) (w := w) (C := ctx σ ρ w G) (b := b) (o := o) (xs := rows.flatten) (fun j y hy => by
      obtain ⟨row, h1, h2⟩ := flatten_idx esz (by omega) rows j y hrl hy
      have e1 := i3 _ _ h1
      have e2 := hrl row (List.mem_of_getElem? h1)
      have e3 : e' = esz := by omega
      subst e3
      refine ⟨f (j / e') (j % e'), ?_, i5 _ _ _ _ h1 h2⟩
      have := (i4 _ _ _ _ h1 h2).1
      rw [Nat.add_assoc, Nat.div_add_mod' j e'] at this
      exact this)
    rw [hl] at this
    exact this
  | immNil full =>
    simp [elemsOf] at h; simp [lenOf] at hn; subst h; subst hn
    exact ⟨by simp, #[], fun dr => by simp [Builtin.firstCells], .nil _⟩
  | immVoid full nn a0 =>
    simp [elemsOf] at h; simp [lenOf] at hn; subst h; subst hn
    exact ⟨by simp, #[], fun dr => by simp [Builtin.firstCells, loadCells, loadCellsFrom], .nil _⟩
  | str s =>
    simp only [elemsOf] at h
    simp only [lenOf, Option.some.injEq] at hn
    subst hn
    split at h <;> cases h
    rename_i he
    subst he
    refine ⟨by simp, (s.map fun b => Value.int .u8 (b.toNat : Int)).toArray, ?_, ?_⟩
    · intro dr
      simp only [Builtin.firstCells, Sem.run_pure]
      congr 1
      apply Array.ext'
      simp [ByteArray.data_extract, List.extract_eq_take_drop]
    · refine ⟨by simp, fun i y u hy hu => ?_⟩
      simp at hy hu
      obtain ⟨b, h1, rfl⟩ := hy
      obtain ⟨b', h2, rfl⟩ := hu
      rw [h1] at h2; cases h2
      exact .int _ _
  | _ => simp [elemsOf] at h

theorem growBy_le (n : Nat) : ∀ (r c : Nat), Builtin.growBy n r c ≤ max c (n + (n + 768) / 4)
  | 0, c => by simp [Builtin.growBy]; omega
  | r + 1, c => by
    simp only [Builtin.growBy]
    split
    · omega
    · have := growBy_le n r (c + (c + 768) / 4)
      have h2 : (c + 768) / 4 ≤ (n + 768) / 4 := Nat.div_le_div_right (by omega)
      omega

theorem nextcap_le (n c : Nat) (h : c < n) : Builtin.nextslicecap n c ≤ 2 * n + 768 := by
  unfold Builtin.nextslicecap
  split
  · omega
  · split
    · omega
    · have := growBy_le n 4 c
      have h2 : (n + 768) / 4 ≤ n + 768 := Nat.div_le_self _ _
      omega

theorem cut_ge (need old : Nat) (e : TypeId) (t : Nat) : need ≤ (Question.appendCap need old e).cut t := by simp [Question.cut]

/-- How 'append' goes where there is no room: a new row. -/
theorem run_append_out {t t2 e ty : TypeId} {d : TypeDesc} {esz by_ n sLen sCap : Nat} {z : List AV} {base : Option Addr} {vx : Value} {old new : Array Value} (ht : P.underlying t = some (.slice e)) (h2 : P.underlying t2 = some d) (hd : ∀ k, d ≠ .int k)
    (hs : sizeT P e = some esz) (hb : bytesT P e = some by_) (hz : zeroT P e = some z) (hzl : z.length = esz) (hb0 : by_ ≠ 0) (w : World)
    (hn : (Builtin.lenOf vx).run P w = .ok n w) (hnew : ∀ d, (Builtin.firstCells esz n vx).run P { w with drawn := d } = .ok new { w with drawn := d }) (hold : ∀ d, (Builtin.firstCells esz sLen (.slice base sLen sCap)).run P { w with drawn := d } = .ok old { w with drawn := d })
    (hroom : sCap < sLen + n) (hg : mayGrow (sLen + n) by_ = true) :
    ∃ cap rest dr, sLen + n ≤ cap ∧ rest.size = (cap - (sLen + n)) * esz ∧
      (Builtin.append_ #[t, t2] ty #[.slice base sLen sCap, vx]).run P w = .ok (.slice (some ⟨w.heap.size, 0, none⟩) (sLen + n) cap) { w with heap := w.heap.push (.cells (old ++ new ++ rest) e (0, 0)), drawn := dr } := by
  obtain ⟨zv, z1, z2⟩ := zero_run hz (ctx [] (fun _ => ⟨0, 0, 0, true, 0⟩) w (fun _ => False)) { w with drawn := w.drawn + 1 }
  have hzs : zv.cells.size = esz := by have := z2.1; simp at this; omega
  obtain ⟨i, hi, hbi⟩ : ∃ i, P.info? e = some i ∧ i.bytes = by_ := by
    unfold bytesT at hb
    cases hi : P.info? e with
    | none => simp [hi] at hb
    | some i => simp [hi] at hb; exact ⟨i, rfl, hb⟩
  have hdm : (match d with | .int _ => true | _ => false) = false := by
    cases d <;> first | rfl | exact absurd rfl (hd _)
  have hcapb : Builtin.nextslicecap (sLen + n) sCap * i.bytes ≤ 2 ^ 48 := by
    have h1 := nextcap_le (sLen + n) sCap hroom
    unfold mayGrow at hg
    simp at hg
    rw [hbi]
    exact Nat.le_trans (Nat.mul_le_mul_right _ h1) hg
  refine ⟨(Question.appendCap (sLen + n) sCap e).cut (w.tape w.drawn (.appendCap (sLen + n) sCap e)), Builtin.zeroCells zv.cells ((Question.appendCap (sLen + n) sCap e).cut (w.tape w.drawn (.appendCap (sLen + n) sCap e)) - (sLen + n)), w.drawn + 1, cut_ge _ _ _ _, by simp [Builtin.zeroCells, hzs], ?_⟩
  have e1 := hnew (w.drawn + 1)
  have e2 := hold (w.drawn + 1)
  have c1 : ¬ (sLen + n ≤ sCap) := by omega
  have c2 : ¬ (((sLen + n : Nat) : Int) > IntKind.i64.max ∧ (false = true ∨ i.bytes = 0)) := by
    rintro ⟨_, h | h⟩
    · cases h
    · omega
  have c3 : ¬ (Builtin.nextslicecap (sLen + n) sCap * i.bytes > 2 ^ 48) := by omega
  unfold Builtin.append_
  simp only [List.getElem?_toArray, List.getElem?_cons_zero, List.getElem?_cons_succ, Sem.run_bind, run_underlying_of ht, run_underlying_of h2, Result.andThen_ok, run_sizeOf hs, Sem.run_pure, hn, typeInfo, run_program, hi]
  simp only [Bool.false_eq_true, if_false, Bool.not_false, if_true, Sem.run_bind, hn, Result.andThen_ok, if_neg c1, Sem.run_pure, run_program, hi, if_neg (by simpa using c2 : ¬ (((sLen + n : Nat) : Int) > IntKind.i64.max ∧ (False ∨ i.bytes = 0))), if_neg c3, run_choose, Question.forced, run_askRoom, newRow, run_newObj]
  simp only [e1, e2, Result.andThen_ok, z1, run_newObj]

/-- How 'append' goes where there is room: the cells stored behind what there is. -/
theorem run_append_in {t t2 e ty : TypeId} {d : TypeDesc} {esz n sLen sCap : Nat} {a : Addr} {vx : Value} {new : Array Value} {w' : World} (ht : P.underlying t = some (.slice e)) (h2 : P.underlying t2 = some d) (hd : ∀ k, d ≠ .int k)
    (hs : sizeT P e = some esz) (w : World) (hn : (Builtin.lenOf vx).run P w = .ok n w) (hnew : (Builtin.firstCells esz n vx).run P w = .ok new w)
    (hroom : sLen + n ≤ sCap) (hst : (storeCells (a.add (sLen * esz)) new.toList).run P w = .ok () w') :
    (Builtin.append_ #[t, t2] ty #[.slice (some a) sLen sCap, vx]).run P w = .ok (.slice (some a) (sLen + n) sCap) w' := by
  unfold Builtin.append_
  simp only [List.getElem?_toArray, List.getElem?_cons_zero, List.getElem?_cons_succ, Sem.run_bind, run_underlying_of ht, run_underlying_of h2, Result.andThen_ok, run_sizeOf hs, Sem.run_pure, hn, typeInfo, run_program]
  simp only [Bool.false_eq_true, if_false, Bool.not_false, if_true, Sem.run_bind, hn, Result.andThen_ok, if_pos hroom, hnew, hst, Sem.run_pure]

theorem run_append_nil {t t2 e ty : TypeId} {d : TypeDesc} {esz : Nat} {vx : Value} {new : Array Value} (ht : P.underlying t = some (.slice e)) (h2 : P.underlying t2 = some d) (hd : ∀ k, d ≠ .int k)
    (hs : sizeT P e = some esz) (w : World) (hn : (Builtin.lenOf vx).run P w = .ok 0 w) (hnew : (Builtin.firstCells esz 0 vx).run P w = .ok new w) :
    (Builtin.append_ #[t, t2] ty #[.slice none 0 0, vx]).run P w = .ok (.slice none 0 0) w := by
  unfold Builtin.append_
  simp only [List.getElem?_toArray, List.getElem?_cons_zero, List.getElem?_cons_succ, Sem.run_bind, run_underlying_of ht, run_underlying_of h2, Result.andThen_ok, run_sizeOf hs, Sem.run_pure, hn, typeInfo, run_program]
  simp only [Bool.false_eq_true, if_false, Bool.not_false, if_true, Sem.run_bind, hn, Result.andThen_ok, hnew, Sem.run_pure, Nat.add_zero, Nat.le_refl]

/-- A slice that has nothing, told as one of the call's own. -/
theorem void_ok {esz : Nat} {a : Option Addr} (hw : WRel σ ρ w G) (ha : True) :
    ∃ ρ', Keeps σ ρ w (hpush σ []) ρ' w ∧ WRel (hpush σ []) ρ' w G ∧ VRel (ctx (hpush σ []) ρ' w G) (.slice σ.length 0 0 none esz) (.slice a 0 0) := by
  obtain ⟨h1, h2⟩ := void_wrel hw
  exact ⟨_, h2, h1, .sliceNil _ _ _ _ _ (by simp [ctx, hpush]) (by simp [ctx, ext_new]) (by simp) ha⟩

theorem append_row {C : Ctx} {old xs : List AV} {o new rest : Array Value} (h1 : LRel C old o.toList) (h2 : LRel C xs new.toList) :
    (old ++ xs).length ≤ (o ++ new ++ rest).size ∧ ∀ (i : Nat) x, (old ++ xs)[i]? = some x → ∃ v, (o ++ new ++ rest)[i]? = some v ∧ VRel C x v := by
  have h := h1.append h2
  have hl := h.1
  refine ⟨by simp at hl ⊢; omega, fun i x hx => ?_⟩
  have hlt := idx_lt hx
  rw [hl] at hlt
  have e : (o ++ new ++ rest)[i]? = (o.toList ++ new.toList)[i]? := by
    simp at hlt
    rw [Array.getElem?_append_left (by simp; omega)]
    rw [← Array.getElem?_toList]; simp
  exact ⟨(o.toList ++ new.toList)[i], by rw [e, List.getElem?_eq_getElem hlt], h.2 i x _ hx (List.getElem?_eq_getElem hlt)⟩

/-- An append that makes a new row, whatever it was appended to. -/
theorem grow_ok {t t2 e ty : TypeId} {d : TypeDesc} {esz by_ n sLen sCap : Nat} {z old xs : List AV} {base : Option Addr} {vx : Value} {o new : Array Value} (hw : WRel σ ρ w G) (ht : P.underlying t = some (.slice e)) (h2 : P.underlying t2 = some d) (hd : ∀ k, d ≠ .int k)
    (hs : sizeT P e = some esz) (hb : bytesT P e = some by_) (hz : zeroT P e = some z) (hzl : z.length = esz) (hb0 : by_ ≠ 0)
    (hn : (Builtin.lenOf vx).run P w = .ok n w) (hnew : ∀ dr, (Builtin.firstCells esz n vx).run P { w with drawn := dr } = .ok new { w with drawn := dr }) (hxs : LRel (ctx σ ρ w G) xs new.toList) (hxl : xs.length = n * esz)
    (hold : ∀ dr, (Builtin.firstCells esz sLen (.slice base sLen sCap)).run P { w with drawn := dr } = .ok o { w with drawn := dr }) (hol : LRel (ctx σ ρ w G) old o.toList) (hll : old.length = sLen * esz)
    (hroom : sCap < sLen + n) (hg : mayGrow (sLen + n) by_ = true) :
    VOk P (Builtin.append_ #[t, t2] ty #[.slice base sLen sCap, vx]) σ ρ w G (.slice σ.length 0 (sLen + n) none esz) (hpush σ (old ++ xs)) := by
  obtain ⟨cap, rest, dr, r1, r2, r3⟩ := run_append_out (ty := ty) ht h2 hd hs hb hz hzl hb0 w hn hnew hold hroom hg
  obtain ⟨g1, g2⟩ := append_row (rest := rest) hol hxs
  have hsz : cap * esz ≤ (o ++ new ++ rest).size := by
    have e1 := hol.1; have e2 := hxs.1
    simp at e1 e2
    simp only [Array.size_append, r2]
    rw [← e1, ← e2, hll, hxl, Nat.sub_mul, Nat.add_mul]
    have : (sLen + n) * esz ≤ cap * esz := Nat.mul_le_mul_right _ r1
    rw [Nat.add_mul] at this
    omega
  obtain ⟨ρ', k1, k2, k3⟩ := newRow_ok (e := e) hw g1 g2 dr (0, 0) (by simp) (sLen + n) cap esz none r1 (by simp) hsz
  exact ⟨_, _, ρ', r3, k1, k2, k3⟩

/-- The block of a slice moves to another number: its cells were written in the world, or are as they were. -/
theorem move_ok {id : Nat} {cs ncs : List AV} {c c' : Array Value} {t : TypeId} {fr : Nat × Nat} {po ex : Nat} (hw : WRel σ ρ w G) (h : σ[id]? = some (some cs)) (hn : (ρ id).nil = false) (hb : w.heap[(ρ id).blk]? = some (.cells c t fr)) (hs : c'.size = c.size)
    (hpe : po + ex ≤ c.size) (hl : ncs.length ≤ ex) (hc : ∀ (i : Nat) x, ncs[i]? = some x → ∃ v, c'[po + i]? = some v ∧ VRel (ctx σ ρ w G) x v) :
    WRel (hpush (hkill σ id) ncs) (ext (hkill σ id) ρ ⟨(ρ id).blk, po, ex, false, (ρ id).ty⟩) (w.setRow (ρ id).blk c') G ∧ Keeps σ ρ w (hpush (hkill σ id) ncs) (ext (hkill σ id) ρ ⟨(ρ id).blk, po, ex, false, (ρ id).ty⟩) (w.setRow (ρ id).blk c') := by
  have hlen : (hkill σ id).length = σ.length := by simp [hkill]
  have idx : ∀ {i : Nat} {k : List AV}, (hpush (hkill σ id) ncs)[i]? = some (some k) → (i ≠ id ∧ i < σ.length ∧ σ[i]? = some (some k)) ∨ (i = σ.length ∧ k = ncs) := by
    intro i k hi
    rcases push_idx hi with ⟨h1, h2⟩ | ⟨h1, h2⟩
    · obtain ⟨h3, h4⟩ := kill_idx h2; exact .inl ⟨h3, by omega, h4⟩
    · exact .inr ⟨by omega, h2⟩
  have eo : ∀ {i : Nat}, i < σ.length → ext (hkill σ id) ρ ⟨(ρ id).blk, po, ex, false, (ρ id).ty⟩ i = ρ i := fun hi => ext_old (by omega)
  have en : ext (hkill σ id) ρ ⟨(ρ id).blk, po, ex, false, (ρ id).ty⟩ σ.length = ⟨(ρ id).blk, po, ex, false, (ρ id).ty⟩ := by rw [← hlen]; exact ext_new _ _ _
  have hk : Keeps σ ρ w (hpush (hkill σ id) ncs) (ext (hkill σ id) ρ ⟨(ρ id).blk, po, ex, false, (ρ id).ty⟩) (w.setRow (ρ id).blk c') := by
    refine ⟨rfl, rfl, rfl, by rw [setRow_size]; exact Nat.le_refl _, fun b hb' hno => ?_, fun b hb' => ?_, by simp [hpush, hkill], fun i hi => eo hi⟩
    · exact setRow_other _ _ _ _ (fun e => hno ⟨id, cs, h, .inl hn, e.symm⟩)
    · obtain ⟨i, k, h1, h2, h3⟩ := hb'
      rcases idx h1 with ⟨hi, hlt, h1⟩ | ⟨rfl, rfl⟩
      · rw [eo hlt] at h2 h3; exact .inl ⟨i, k, h1, h2, h3⟩
      · rw [en] at h3; exact .inl ⟨id, cs, h, .inl hn, h3⟩
  obtain ⟨c0, t0, fr0, k1, k2, k3, k4, k5⟩ := hw.blk id cs h hn
  have e : c0 = c ∧ t0 = t ∧ fr0 = fr := by
    have : some (Obj.cells c0 t0 fr0) = some (Obj.cells c t fr) := k1.symm.trans hb
    simpa using this
  obtain ⟨rfl, rfl, rfl⟩ := e
  refine ⟨⟨fun i k h' hn' => ?_, fun i k h' hn' => ?_, fun i i' k k' h1 h2 hn1 hn2 he => ?_, fun i k h' hn' => ?_, fun b hb' => ?_, hw.glob.keeps hk⟩, hk⟩
  · rcases idx h' with ⟨hi, hlt, h1⟩ | ⟨rfl, rfl⟩
    · rw [eo hlt] at hn' ⊢
      exact (hw.blk i k h1 hn').of (fun x v hx => hx.keeps hw hk) (setRow_other _ _ _ _ (fun e => hi (hw.excl _ _ _ _ h1 h (.inl hn') (.inl hn) e)))
    · rw [en]
      refine ⟨c', t0, fr0, setRow_heap w _ c0 c' t0 fr0 hb, by rw [hs]; exact hpe, ⟨hl, k3.2⟩, by rw [hs]; exact k4, fun j x hx => ?_⟩
      obtain ⟨v, a, b⟩ := hc j x hx
      exact ⟨v, a, b.keeps hw hk⟩
  · rcases idx h' with ⟨hi, hlt, h1⟩ | ⟨rfl, rfl⟩
    · rw [eo hlt] at hn' ⊢; exact (hw.nil i k h1 hn').of (fun x v hx => hx.keeps hw hk) (fun he => setRow_other _ _ _ _ (fun e => hi (hw.excl _ _ _ _ h1 h (.inr he) (.inl hn) e)))
    · rw [en] at hn'; cases hn'
  · rcases idx h1 with ⟨hi, hlt, g1⟩ | ⟨rfl, rfl⟩ <;> rcases idx h2 with ⟨hi', hlt', g2⟩ | ⟨rfl, rfl⟩
    · rw [eo hlt] at hn1 he; rw [eo hlt'] at hn2 he; exact hw.excl i i' k k' g1 g2 hn1 hn2 he
    · rw [eo hlt] at hn1 he; rw [en] at he; exact absurd (hw.excl i id k cs g1 h hn1 (.inl hn) he) hi
    · rw [eo hlt'] at hn2 he; rw [en] at he; exact absurd (hw.excl id i' cs k' h g2 (.inl hn) hn2 he).symm hi'
    · rfl
  · rcases idx h' with ⟨hi, hlt, h1⟩ | ⟨rfl, rfl⟩
    · rw [eo hlt] at hn' ⊢; exact hw.sep i k h1 hn'
    · rw [en]; exact hw.sep id cs h (.inl hn)
  · rw [setRow_size]; exact hw.gsz b hb'

theorem lrel_oneCell {C : Ctx} {xs : List AV} {vs : List Value} (h : LRel C xs vs) (hc : xs.all (·.isCell) = true) : ∀ v ∈ vs, v.oneCell' = true := by
  intro u hu
  obtain ⟨i, hi, rfl⟩ := List.mem_iff_getElem.1 hu
  have hi' : i < xs.length := by rw [h.1]; exact hi
  exact isCell_rel (h.2 i xs[i] _ (by simp [hi']) (by simp [hi])) (List.all_eq_true.1 hc _ (List.getElem_mem hi'))

theorem run_append_empty {t t2 e ty : TypeId} {d : TypeDesc} {esz sLen sCap : Nat} {base : Option Addr} {vx : Value} {new : Array Value} (ht : P.underlying t = some (.slice e)) (h2 : P.underlying t2 = some d) (hd : ∀ k, d ≠ .int k)
    (hs : sizeT P e = some esz) (w : World) (hn : (Builtin.lenOf vx).run P w = .ok 0 w) (hnew : (Builtin.firstCells esz 0 vx).run P w = .ok new w) (hne : new.toList = []) (hle : sLen ≤ sCap) :
    (Builtin.append_ #[t, t2] ty #[.slice base sLen sCap, vx]).run P w = .ok (.slice base sLen sCap) w := by
  cases base with
  | none =>
    unfold Builtin.append_
    simp only [List.getElem?_toArray, List.getElem?_cons_zero, List.getElem?_cons_succ, Sem.run_bind, run_underlying_of ht, run_underlying_of h2, Result.andThen_ok, run_sizeOf hs, Sem.run_pure, hn, typeInfo, run_program]
    simp only [Bool.false_eq_true, if_false, Bool.not_false, if_true, Sem.run_bind, hn, Result.andThen_ok, hnew, Sem.run_pure, Nat.add_zero, if_pos hle]
  | some a =>
    have := run_append_in (ty := ty) (w' := w) (a := a) ht h2 hd hs w hn hnew (sLen := sLen) (sCap := sCap) (by omega) (by rw [hne]; rfl)
    simpa using this

theorem run_append_here {t t2 e ty : TypeId} {d : TypeDesc} {esz by_ n id off len : Nat} {cap : Option Nat} {cs old xs ncs : List AV} {b o c e' : Nat} {vx : Value} {new : Array Value} (hw : WRel σ ρ w G) (ht : P.underlying t = some (.slice e)) (h2 : P.underlying t2 = some d) (hd : ∀ k, d ≠ .int k)
    (hs : sizeT P e = some esz) (hn : (Builtin.lenOf vx).run P w = .ok n w) (hnew : (Builtin.firstCells esz n vx).run P w = .ok new w) (hxs : LRel (ctx σ ρ w G) xs new.toList) (hxl : xs.length = n * esz) (hcell : xs.all (·.isCell) = true)
    (hg : σ[id]? = some (some cs)) (hnil : (ρ id).nil = false) (hc0 : 0 < c) (hroom : len + n ≤ c) (hq : off + c * esz ≤ (ρ id).ext) :
    ∃ c0 c' t0 fr, w.heap[(ρ id).blk]? = some (.cells c0 t0 fr) ∧ c'.size = c0.size ∧ c' = (c0.toList.take ((ρ id).off + (off + len * esz)) ++ new.toList ++ c0.toList.drop ((ρ id).off + (off + len * esz) + new.toList.length)).toArray ∧ (ρ id).off + (ρ id).ext ≤ c0.size ∧
      (∀ (i : Nat) x, cs[i]? = some x → ∃ v, c0[(ρ id).off + i]? = some v ∧ VRel (ctx σ ρ w G) x v) ∧
      (Builtin.append_ #[t, t2] ty #[.slice (some ⟨(ρ id).blk, (ρ id).off + off, none⟩) len c, vx]).run P w = .ok (.slice (some ⟨(ρ id).blk, (ρ id).off + off, none⟩) (len + n) c) (w.setRow (ρ id).blk c') := by
  obtain ⟨c0, t0, fr, k1, k2, k3, k4, k5⟩ := hw.blk id cs hg hnil
  have hnl : new.toList.length = n * esz := by rw [← hxs.1, hxl]
  have hfit : (ρ id).off + (off + len * esz) + new.toList.length ≤ c0.size := by
    have : (len + n) * esz ≤ c * esz := Nat.mul_le_mul_right _ hroom
    rw [Nat.add_mul] at this
    rw [hnl]; omega
  have hst := run_storeCells_row P (ρ id).blk ((ρ id).off + (off + len * esz)) t0 fr new.toList 0 c0 w k1 k4.1 (by omega) (lrel_oneCell hxs hcell)
  refine ⟨c0, _, t0, fr, k1, ?_, rfl, k2, k5, run_append_in (ty := ty) ht h2 hd hs w hn hnew hroom ?_⟩
  · simp; simp at hfit; omega
  · rw [addr_add]
    simpa [Nat.add_assoc] using hst

theorem append_ok {t t2 e ty : TypeId} {d : TypeDesc} {esz by_ : Nat} {z : List AV} {s x r : AV} {vs vx : Value} {σ' : AHeap} (hw : WRel σ ρ w G) (ht : P.underlying t = some (.slice e)) (h2 : P.underlying t2 = some d) (hd : ∀ k, d ≠ .int k)
    (hs : sizeT P e = some esz) (hb : bytesT P e = some by_) (hz : zeroT P e = some z) (hzl : z.length = esz) (hs0 : esz ≠ 0) (hb0 : by_ ≠ 0)
    (hS : VRel (ctx σ ρ w G) s vs) (hX : VRel (ctx σ ρ w G) x vx) (h : evAppend esz by_ s x σ = some (r, σ')) :
    VOk P (Builtin.append_ #[t, t2] ty #[vs, vx]) σ ρ w G r σ' := by
  unfold evAppend at h
  split at h
  case h_2 => cases h
  rename_i xs n m hxs hlx hls
  split at h
  case isFalse => cases h
  rename_i hgc
  simp only [Bool.and_eq_true] at hgc
  obtain ⟨hg, hcell⟩ := hgc
  have hn := lenOf_ok (P := P) hX hlx w
  obtain ⟨hxl, new, hnew, hnr⟩ := elemsOf_ok (P := P) hw hs0 hX hxs hlx
  have hnew0 : (Builtin.firstCells esz n vx).run P w = .ok new w := hnew w.drawn
  -- nothing there yet: a new row, or nothing
  have fresh : ∀ (a : Option Addr), True → m = 0 → VOk P (Builtin.append_ #[t, t2] ty #[.slice a 0 0, vx]) σ ρ w G (.slice σ.length 0 n none esz) (hpush σ xs) := by
    intro a ha hm
    subst hm
    rcases Nat.eq_zero_or_pos n with h0 | h0
    · subst h0
      have hx0 : xs = [] := by cases xs with | nil => rfl | cons => simp at hxl
      subst hx0
      have hne : new.toList = [] := by have := hnr.1; simp at this; simpa using this.symm
      obtain ⟨ρ', k1, k2, k3⟩ := void_ok (esz := esz) (a := a) hw ha
      exact ⟨_, _, ρ', run_append_empty (ty := ty) ht h2 hd hs w hn hnew0 hne (Nat.le_refl _), k1, k2, k3⟩
    · have := grow_ok (ty := ty) (sLen := 0) (sCap := 0) (base := a) (old := []) (o := #[]) hw ht h2 hd hs hb hz hzl hb0 hn hnew hnr hxl (fun dr => by cases a <;> simp [Builtin.firstCells, loadCells, loadCellsFrom]) (.nil _) (by simp) (by omega) hg
      simpa using this
  cases hS with
  | nilslice =>
    simp only at h
    simp [lenOf] at hls
    split at h
    · rename_i h0
      cases h
      subst h0
      have hx0 : xs = [] := by cases xs with | nil => rfl | cons => simp at hxl
      subst hx0
      have hne : new.toList = [] := by have := hnr.1; simp at this; simpa using this.symm
      exact VOk.stay hw (run_append_empty (ty := ty) ht h2 hd hs w hn hnew0 hne (Nat.le_refl _)) .nilslice
    · cases h
      exact fresh none (by simp) hls.symm
  | slice id off len cap e' b o c i1 i2 i3 i4 i5 =>
    simp only [lenOf, Option.some.injEq] at hls
    subst hls
    cases cap with
    | some k =>
      simp only at h
      have hck := i4 k rfl
      subst hck
      split at h
      · rename_i h0
        subst h0
        cases h
        have : len = 0 := by omega
        subst this
        exact fresh _ (by simp) rfl
      · rename_i h0
        split at h
        · rename_i hroom
          split at h
          case isFalse => cases h
          rename_i hee
          subst hee
          cases hgt : hget σ id with
          | none => simp [hgt] at h
          | some cs =>
            cases hp : put cs (off + len * e') xs with
            | none => simp [hgt, hp] at h
            | some ncs =>
              simp [hgt, hp] at h
              obtain ⟨rfl, rfl⟩ := h
              obtain ⟨q1, q2, q3⟩ := i5 (by omega)
              subst q1; subst q2
              obtain ⟨c0, c', t0, fr, k1, k2, k3, k4, k5, k6⟩ := run_append_here (ty := ty) (by_ := by_) (cap := none) (old := []) (ncs := []) (b := 0) (o := 0) (e' := 0) hw ht h2 hd hs hn hnew0 hnr hxl hcell (hget_some hgt) i2 (by omega) hroom q3
              obtain ⟨p1, p2⟩ := put_some hp
              have hcl : cs.length ≤ (ρ id).ext := by obtain ⟨_, _, _, _, _, a3, _⟩ := hw.blk id cs (hget_some hgt) i2; exact a3.1
              have hsp := splice_rel hp (show (ρ id).off + cs.length ≤ c0.size by omega) hnr k5
              obtain ⟨s1, s2⟩ := set_wrel (cells := ncs) hw (hget_some hgt) i2 k1 k2 (by rw [put_length hp]; exact hcl) (by rw [k3]; simpa [Nat.add_assoc] using hsp)
              exact ⟨_, _, ρ, k6, s2, s1, .slice id off _ _ _ _ _ _ (by simpa [ctx, hset] using i1) i2 hroom (by simp) (fun _ => ⟨rfl, rfl, q3⟩)⟩
        · rename_i hroom
          cases ho : elemsOf σ esz (.slice id off len (some c) e') with
          | none => simp [ho] at h
          | some old =>
            simp [ho] at h
            obtain ⟨hol, oc, o1, o2⟩ := elemsOf_ok (P := P) hw hs0 (.slice id off len (some c) e' b o c i1 i2 i3 i4 i5) ho rfl
            have := grow_ok (ty := ty) (sLen := len) (sCap := c) (base := some ⟨b, o, none⟩) (old := old) (o := oc) hw ht h2 hd hs hb hz hzl hb0 hn hnew hnr hxl o1 o2 hol (by omega) hg
            rw [grown] at h
            obtain ⟨rfl, rfl⟩ := h
            exact this
    | none =>
      simp only at h
      cases ho : elemsOf σ esz (.slice id off len none e') with
      | none => simp [ho] at h
      | some old =>
        simp [ho, grown] at h
        obtain ⟨rfl, rfl⟩ := h
        obtain ⟨hol, oc, o1, o2⟩ := elemsOf_ok (P := P) hw hs0 (.slice id off len none e' b o c i1 i2 i3 i4 i5) ho rfl
        have hlen : (hkill σ id).length = σ.length := by simp [hkill]
        have kk := kill_keeps σ ρ w id
        have kw := kill_wrel hw id
        by_cases hroom : len + n ≤ c
        · rcases Nat.eq_zero_or_pos c with hc0 | hc0
          · subst hc0
            have hn0 : n = 0 := by omega
            have hl0 : len = 0 := by omega
            subst hn0; subst hl0
            have hx0 : xs = [] := by cases xs with | nil => rfl | cons => simp at hxl
            subst hx0
            have ho0 : old = [] := by cases old with | nil => rfl | cons => simp at hol
            subst ho0
            have hne : new.toList = [] := by have := hnr.1; simp at this; simpa using this.symm
            obtain ⟨ρ', k1, k2, k3⟩ := void_ok (esz := esz) (a := some ⟨b, o, none⟩) kw (by simp)
            exact ⟨_, _, ρ', run_append_empty (ty := ty) ht h2 hd hs w hn hnew0 hne (Nat.le_refl _), kk.trans k1, k2, by simpa [hpush] using k3⟩
          · obtain ⟨q1, q2, q3⟩ := i5 hc0
            have q3 : off + c * e' ≤ (ρ id).ext := q3
            subst q1; subst q2
            simp only [elemsOf] at ho
            split at ho
            case isFalse => cases ho
            rename_i hee
            subst hee
            cases hgt : hget σ id with
            | none => simp [hgt] at ho
            | some cs =>
              simp [hgt] at ho
              obtain ⟨c0, c', t0, fr, k1, k2, k3, k4, k5, k6⟩ := run_append_here (ty := ty) (by_ := by_) (cap := none) (old := []) (ncs := []) (b := 0) (o := 0) (e' := 0) hw ht h2 hd hs hn hnew0 hnr hxl hcell (hget_some hgt) i2 hc0 hroom q3
              have hcn : (len + n) * e' ≤ c * e' := Nat.mul_le_mul_right _ hroom
              have hnl : new.toList.length = n * e' := by rw [← hnr.1, hxl]
              obtain ⟨s1, s2⟩ := move_ok (ncs := old ++ xs) (c' := c') (po := (ρ id).off + off) (ex := (ρ id).ext - off) hw (hget_some hgt) i2 k1 k2 (by omega) (by rw [List.length_append, hol, hxl, ← Nat.add_mul]; omega) (fun i y hy => by
                rw [k3, List.getElem?_toArray, splice_idx _ _ _ _ (by rw [hnl]; simp; rw [Nat.add_mul] at hcn; omega)]
                rw [List.getElem?_append] at hy
                split at hy
                · rename_i hlt
                  rw [hol] at hlt
                  rw [if_neg (by omega)]
                  obtain ⟨u, u1, u2⟩ := k5 _ _ (sub_idx ho hy).1
                  exact ⟨u, by rw [Nat.add_assoc]; simpa using u1, u2⟩
                · rename_i hge
                  rw [hol] at hge hy
                  have hlt := idx_lt hy
                  rw [hnr.1, hnl] at hlt
                  rw [if_pos (by omega), show (ρ id).off + off + i - ((ρ id).off + (off + len * e')) = i - len * e' by omega]
                  exact ⟨new.toList[i - len * e']'(by rw [hnl]; exact hlt), List.getElem?_eq_getElem _, hnr.2 _ _ _ hy (List.getElem?_eq_getElem _)⟩)
              refine ⟨_, _, _, k6, s2, s1, ?_⟩
              exact .slice _ _ _ _ _ _ _ _ (by simp [ctx, hpush]) (by simp [ctx, ext_new]) hroom (by simp) (fun _ => by simp only [ctx, ext_new]; exact ⟨trivial, by omega, by omega⟩)
        · have := grow_ok (ty := ty) (sLen := len) (sCap := c) (base := some ⟨b, o, none⟩) (old := old) (o := oc) kw ht h2 hd hs hb hz hzl hb0 hn hnew ⟨hnr.1, fun i y u hy hu => (hnr.2 i y u hy hu).keeps hw kk⟩ hxl o1 ⟨o2.1, fun i y u hy hu => (o2.2 i y u hy hu).keeps hw kk⟩ hol (by omega) hg
          obtain ⟨v, w', ρ', g1, g2, g3, g4⟩ := this
          exact ⟨v, w', ρ', g1, kk.trans g2, g3, g4⟩
  | sliceNil id off cap e' a i1 i2 i3 i4 =>
    simp only [lenOf, Option.some.injEq] at hls
    have hm0 : m = 0 := hls.symm
    cases cap with
    | some k =>
      simp only at h
      have := i3 k rfl
      subst this
      rw [if_pos rfl] at h
      cases h
      exact fresh a i4 hm0
    | none =>
      simp only at h
      cases ho : elemsOf σ esz (.slice id off 0 none e') with
      | none => simp [ho] at h
      | some old =>
        simp [ho, grown] at h
        obtain ⟨rfl, rfl⟩ := h
        obtain ⟨hol, _⟩ := elemsOf_ok (P := P) hw hs0 (.sliceNil id off none e' a i1 i2 i3 i4) ho rfl
        have ho0 : old = [] := by cases old with | nil => rfl | cons => simp at hol
        subst ho0
        subst hm0
        have hlen : (hkill σ id).length = σ.length := by simp [hkill]
        have kk := kill_keeps σ ρ w id
        have kw := kill_wrel hw id
        have hnr' : LRel (ctx (hkill σ id) ρ w G) xs new.toList := ⟨hnr.1, fun i y u hy hu => (hnr.2 i y u hy hu).keeps hw kk⟩
        rcases Nat.eq_zero_or_pos n with h0 | h0
        · subst h0
          have hx0 : xs = [] := by cases xs with | nil => rfl | cons => simp at hxl
          subst hx0
          have hne : new.toList = [] := by have := hnr.1; simp at this; simpa using this.symm
          obtain ⟨ρ', k1, k2, k3⟩ := void_ok (esz := esz) (a := a) kw i4
          exact ⟨_, _, ρ', run_append_empty (ty := ty) ht h2 hd hs w hn hnew0 hne (Nat.le_refl _), kk.trans k1, k2, by simpa using k3⟩
        · have := grow_ok (ty := ty) (sLen := 0) (sCap := 0) (base := a) (old := []) (o := #[]) kw ht h2 hd hs hb hz hzl hb0 hn hnew hnr' hxl (fun dr => by cases a <;> simp [Builtin.firstCells, loadCells, loadCellsFrom]) (.nil _) (by simp) (by omega) hg
          obtain ⟨v, w', ρ', g1, g2, g3, g4⟩ := this
          exact ⟨v, w', ρ', g1, kk.trans g2, g3, by simpa using g4⟩
  | imm rows full nn b o c e' f i1 i2 i3 i4 i5 =>
    simp only [lenOf, Option.some.injEq] at hls
    subst hls
    have stay : n = 0 → VOk P (Builtin.append_ #[t, t2] ty #[.slice (some ⟨b, o, none⟩) rows.length c, vx]) σ ρ w G (.imm rows full nn) σ := by
      intro h0
      subst h0
      have hx0 : xs = [] := by cases xs with | nil => rfl | cons => simp at hxl
      subst hx0
      have hne : new.toList = [] := by have := hnr.1; simp at this; simpa using this.symm
      exact .stay hw (run_append_empty (ty := ty) ht h2 hd hs w hn hnew0 hne i1) (.imm rows full nn b o c e' f i1 i2 i3 i4 i5)
    cases full with
    | false =>
      simp at h
      obtain ⟨h0, rfl, rfl⟩ := h
      exact stay h0
    | true =>
      have hc := i2 rfl
      simp only [if_true] at h
      split at h
      · rename_i he
        have : rows = [] := by simpa using he
        subst this
        cases h
        simp at hc
        subst hc
        exact fresh _ (by simp) rfl
      · split at h
        · cases h; exact stay ‹_›
        · rename_i hn0
          cases ho : elemsOf σ esz (.imm rows true nn) with
          | none => simp [ho] at h
          | some old =>
            simp [ho] at h
            obtain ⟨hol, oc, o1, o2⟩ := elemsOf_ok (P := P) hw hs0 (.imm rows true nn b o c e' f i1 i2 i3 i4 i5) ho rfl
            have := grow_ok (ty := ty) (sLen := rows.length) (sCap := c) (base := some ⟨b, o, none⟩) (old := old) (o := oc) hw ht h2 hd hs hb hz hzl hb0 hn hnew hnr hxl o1 o2 hol (by omega) hg
            rw [grown] at h
            obtain ⟨rfl, rfl⟩ := h
            exact this
  | immNil full =>
    simp only [lenOf, Option.some.injEq] at hls
    have hm0 : m = 0 := by simpa using hls.symm
    cases full with
    | true =>
      simp at h
      rw [grown] at h
      obtain ⟨rfl, rfl⟩ := h
      exact fresh none (by simp) hm0
    | false =>
      simp at h
      obtain ⟨h0, rfl, rfl⟩ := h
      subst h0
      have hx0 : xs = [] := by cases xs with | nil => rfl | cons => simp at hxl
      subst hx0
      have hne : new.toList = [] := by have := hnr.1; simp at this; simpa using this.symm
      exact .stay hw (run_append_empty (ty := ty) ht h2 hd hs w hn hnew0 hne (Nat.le_refl _)) (.immNil false)
  | immVoid full nn a0 =>
    simp only [lenOf, Option.some.injEq] at hls
    have hm0 : m = 0 := by simpa using hls.symm
    cases full with
    | true =>
      simp at h
      rw [grown] at h
      obtain ⟨rfl, rfl⟩ := h
      exact fresh (some a0) (by simp) hm0
    | false =>
      simp at h
      obtain ⟨h0, rfl, rfl⟩ := h
      subst h0
      have hx0 : xs = [] := by cases xs with | nil => rfl | cons => simp at hxl
      subst hx0
      have hne : new.toList = [] := by have := hnr.1; simp at this; simpa using this.symm
      exact .stay hw (run_append_empty (ty := ty) ht h2 hd hs w hn hnew0 hne (Nat.le_refl _)) (.immVoid false nn a0)
  | _ => simp [lenOf] at hls <;> simp at h

theorem hset_self {id : Nat} {cs : List AV} (h : hget σ id = some cs) : hset σ id cs = σ := by
  have h' := hget_some h
  unfold hset
  apply List.ext_getElem?
  intro j
  rw [List.getElem?_set]
  by_cases hj : id = j
  · subst hj
    rw [if_pos rfl, if_pos (idx_lt h'), h']
  · rw [if_neg hj]
/-- How 'clear' goes: the cells of a slice become zero. -/
theorem clear_ok {t e ty : TypeId} {esz : Nat} {z : List AV} {d r : AV} {v : Value} {σ' : AHeap} (hw : WRel σ ρ w G) (ht : P.underlying t = some (.slice e)) (hz : zeroT P e = some z)
    (hD : VRel (ctx σ ρ w G) d v) (h : evCopy esz d (.agg z) σ = some (r, σ')) : VOk P (Builtin.clear_ #[t] ty #[v]) σ ρ w G r σ' := by
  unfold evCopy at h
  simp only at h
  split at h
  case isFalse => cases h
  rename_i hh
  obtain ⟨hzl, hcell⟩ := hh
  cases hD with
  | nilslice =>
    simp only at h
    cases h
    exact .stay hw (v := .tuple #[]) (by simp [Builtin.clear_, run_underlying_of ht]) (.tuple _ _ rfl (by intro i x u hx; simp at hx))
  | slice id off len cap e' b o c i1 i2 i3 i4 i5 =>
    simp only at h
    split at h
    case isFalse => cases h
    rename_i hee
    subst hee
    cases hgt : hget σ id with
    | none => simp [hgt] at h
    | some cs =>
      cases hp : put cs off (List.replicate len z).flatten with
      | none => simp [hgt, hp] at h
      | some ncs =>
        simp [hgt, hp] at h
        obtain ⟨rfl, rfl⟩ := h
        have hr : VRel (ctx (hset σ id ncs) ρ w G) (.tuple []) (.tuple #[]) := .tuple _ _ rfl (by intro i x u hx; simp at hx)
        rcases Nat.eq_zero_or_pos len with h0 | h0
        · subst h0
          have : ncs = cs := by
            have := put_some hp
            obtain ⟨_, rfl⟩ := this
            simp
          subst this
          rw [hset_self hgt]
          exact .stay hw (v := .tuple #[]) (by simp [Builtin.clear_, run_underlying_of ht]) (.tuple _ _ rfl (by intro i x u hx; simp at hx))
        · obtain ⟨q1, q2, q3⟩ := i5 (by omega)
          subst q1; subst q2
          obtain ⟨c0, t0, fr, k1, k2, k3, k4, k5⟩ := hw.blk id cs (hget_some hgt) i2
          obtain ⟨zv, z1, z2⟩ := zero_run hz (ctx σ ρ w G) w
          have zr := zeros_rel z2 len
          have hlen : ((List.replicate len z).flatten).length = len * e' := by rw [flatten_length e' _ (by intro r hr; rw [List.mem_replicate] at hr; rw [hr.2]; exact hzl)]; simp
          have zl := zr.1
          rw [hlen] at zl
          obtain ⟨p1, p2⟩ := put_some hp
          have hcl : cs.length ≤ (ρ id).ext := k3.1
          have hfit : (ρ id).off + off + len * e' ≤ c0.size := by rw [hlen] at p1; omega
          have hall : ((List.replicate len z).flatten).all (·.isCell) = true := by
            rw [List.all_eq_true]; intro x hx
            obtain ⟨r, hr, hxr⟩ := List.mem_flatten.1 hx
            rw [List.mem_replicate] at hr
            rw [hr.2] at hxr
            exact List.all_eq_true.1 hcell x hxr
          have hst := run_storeCells_row P (ρ id).blk ((ρ id).off + off) t0 fr ((Array.range (len * zv.cells.size)).map (zv.cells[· % zv.cells.size]!)).toList 0 c0 w k1 k4.1 (by rw [← zl]; omega) (lrel_oneCell zr hall)
          have hsp := splice_rel hp (show (ρ id).off + cs.length ≤ c0.size by omega) zr k5
          obtain ⟨s1, s2⟩ := set_wrel (cells := ncs) (c' := (c0.toList.take ((ρ id).off + off + 0) ++ ((Array.range (len * zv.cells.size)).map (zv.cells[· % zv.cells.size]!)).toList ++ c0.toList.drop ((ρ id).off + off + 0 + ((Array.range (len * zv.cells.size)).map (zv.cells[· % zv.cells.size]!)).toList.length)).toArray) hw (hget_some hgt) i2 k1 (by simp only [List.size_toArray, List.length_append, List.length_take, List.length_drop, ← zl, Array.length_toList]; omega) (by rw [put_length hp]; exact hcl) (by simpa using hsp)
          refine ⟨.tuple #[], _, ρ, ?_, s2, s1, .tuple _ _ rfl (by intro i x u hx; simp at hx)⟩
          have hl0 : len ≠ 0 := by omega
          unfold Builtin.clear_
          obtain ⟨m, rfl⟩ : ∃ m, len = m + 1 := ⟨len - 1, by omega⟩
          have hst' := hst
          simp at hst'
          simp [run_underlying_of ht, z1, Builtin.zeroCells]
          simp only [ctx]
          rw [hst']
          rfl
  | sliceNil id off cap e' a i1 i2 i3 i4 =>
    simp only at h
    split at h
    case isFalse => cases h
    cases hgt : hget σ id with
    | none => simp [hgt] at h
    | some cs =>
      simp [hgt] at h
      obtain ⟨ncs, hp, rfl, rfl⟩ := h
      have : ncs = cs := by
        have := put_some hp
        obtain ⟨_, rfl⟩ := this
        simp
      subst this
      rw [hset_self hgt]
      exact .stay hw (v := .tuple #[]) (by cases a <;> simp [Builtin.clear_, run_underlying_of ht]) (.tuple _ _ rfl (by intro i x u hx; simp at hx))
  | _ => simp at h

end
end Go.Gz
