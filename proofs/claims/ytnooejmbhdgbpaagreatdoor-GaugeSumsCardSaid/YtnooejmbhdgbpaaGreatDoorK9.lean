/- Each operation of the model does what the abstract one says: addresses, parts, append, copy, conversions. -/
import Derived.Test.YtnooejmbhdgbpaaGreatDoorK8
set_option linter.unusedVariables false
set_option linter.unusedSimpArgs false
namespace Go.Gz

section
variable {P : Program} {σ : AHeap} {ρ : Nat → Place} {w : World} {G : Nat → Prop}

theorem sliceStr_ok {t : TypeId} {x r : AV} {v : Value} {lo hi : Option AV} {lv hv : Option Value} (ht : P.underlying t = some .string) {C : Ctx}
    (hx : VRel C x v) (hl : ORel C lo lv) (hh : ORel C hi hv) (h : evSliceStr x lo hi = some r) (w : World) :
    ∃ u, (Instr.slice t v lv hv none).run P w = .ok u w ∧ VRel C r u := by
  cases hx <;> simp only [evSliceStr] at h <;> (try cases h)
  rename_i s
  split at h
  case h_2 => cases h
  rename_i h' h2
  split at h
  case h_2 => cases h
  rename_i l h3
  cases h
  have hb := bounds_ok (P := P) (mx := none) (mv := none) hl hh trivial (by simp) false (top := s.length) (m := s.length) (by simp [bound?]) h2 h3 w
  have e2 : h' ≤ s.length := by have := bound_le h2; omega
  have e3 : l ≤ h' := by have := bound_le h3; omega
  refine ⟨.string ((⟨s.toArray⟩ : ByteArray).extract l h'), ?_, ?_⟩
  · simp only [Instr.slice, Sem.run_bind, run_underlying_of ht, Result.andThen_ok, Option.isSome_none, Bool.false_eq_true, if_false, Sem.run_pure, size_str, hb]
  · have := VRel.str (C := C) ((s.take h').drop l)
    have e : (⟨((s.take h').drop l).toArray⟩ : ByteArray) = (⟨s.toArray⟩ : ByteArray).extract l h' := by
      apply ByteArray.ext
      apply Array.ext'
      simp [ByteArray.data_extract, List.extract_eq_take_drop, List.drop_take]
    rwa [e] at this

theorem inRange_ok {C : Ctx} {x : AV} {v : Value} {n k : Nat} (hx : VRel C x v) (h : inRange x n = some k) : ∃ kk i, v = .int kk i ∧ 0 ≤ i ∧ i < n ∧ i.toNat = k := by
  cases hx <;> simp only [inRange] at h <;> (try cases h)
  split at h <;> cases h
  rename_i hh
  exact ⟨_, _, rfl, hh.1, hh.2, rfl⟩

theorem fieldAddr_ok {t : TypeId} {fs : Array Field} {fd : Field} {f s : Nat} {x r : AV} {v : Value} {C : Ctx} (ht : P.underlying t = some (.struct fs)) (hf : fs[f]? = some fd) (hs : sizeT P fd.type = some s) (hs0 : s ≠ 0) (hx : VRel C x v)
    (h : fAddr fd.offset x = some r) (w : World) :
    ∃ u, (Instr.fieldAt t v f).run P w = .ok u w ∧ VRel C r u := by
  have run : ∀ b o, (Instr.fieldAt t (.pointer (some ⟨b, o, none⟩)) f).run P w = .ok (.pointer (some ⟨b, o + fd.offset, none⟩)) w := by
    intro b o
    unfold Instr.fieldAt
    simp only [Sem.run_bind, run_underlying_of ht, Result.andThen_ok, hf, run_sureAddr, fieldPlace, run_sizeOf hs, if_neg hs0, Sem.run_pure, addr_add]
  cases hx <;> simp only [fAddr] at h <;> (try cases h)
  · rename_i id off h1 h2
    refine ⟨_, run _ _, ?_⟩
    rw [Nat.add_assoc]
    exact .ptr id _ h1 h2
  · rename_i cells b o g hc hr
    refine ⟨_, run _ _, .iptr _ b (o + fd.offset) (fun j => g (fd.offset + j)) (fun j y hy => ?_) (fun j y hy => ?_)⟩
    · rw [List.getElem?_drop] at hy
      have := hc _ _ hy
      rw [← Nat.add_assoc] at this; exact this
    · rw [List.getElem?_drop] at hy; exact hr _ _ hy
  · rename_i id t' h1 h2 h3 h4
    refine ⟨_, run _ _, ?_⟩
    have := VRel.ptr (C := C) id fd.offset h1 h2
    rw [h4] at this; exact this

theorem part_ok {t : TypeId} {xs : List AV} {vs : Array Value} {C : Ctx} (h : LRel C xs vs.toList) (w : World) :
    (isAggT P t = some false → ∀ (o : Nat) x, xs[o]? = some x → ∃ u, (part t vs o).run P w = .ok u w ∧ VRel C x u) ∧
    (∀ n, isAggT P t = some true → sizeT P t = some n → ∀ (o : Nat) r, sub xs o n = some r → ∃ u, (part t vs o).run P w = .ok u w ∧ VRel C (.agg r) u) := by
  refine ⟨fun ht o x hx => ?_, fun n ht hs o r hr => ?_⟩
  · obtain ⟨_, g⟩ := h.get
    obtain ⟨u, h1, h2⟩ := g o x hx
    exact ⟨u, run_part1 ht h1 w, h2⟩
  · obtain ⟨h1, rfl⟩ := sub_some hr
    refine ⟨.agg (vs.extract o (o + n)), by simp [part, run_isAgg ht w, run_sizeOf hs w], ?_⟩
    refine LRel.agg ?_
    have : (vs.extract o (o + n)).toList = (vs.toList.drop o).take n := by simp [List.extract_eq_take_drop]
    rw [this]
    exact (h.drop o).take n

theorem indexAddr_ok {t e : TypeId} {esz : Nat} {x r i : AV} {v iv : Value} {C : Ctx} (ht : P.underlying t = some (.slice e)) (hs : sizeT P e = some esz) (hx : VRel C x v) (hi : VRel C i iv)
    (h : iAddr esz x i = some r) (w : World) : ∃ u, (Instr.indexAt t v iv).run P w = .ok u w ∧ VRel C r u := by
  have run : ∀ (b o len c : Nat) (kk : IntKind) (j : Int), 0 ≤ j → j < len → (Instr.indexAt t (.slice (some ⟨b, o, none⟩) len c) (.int kk j)).run P w = .ok (.pointer (some ⟨b, o + j.toNat * esz, none⟩)) w := by
    intro b o len c kk j h0 h1
    unfold Instr.indexAt
    simp only [asIntOf, Sem.run_bind, Sem.run_pure, Result.andThen_ok, run_underlying_of ht]
    rw [if_pos ⟨h0, h1⟩]
    simp [run_sizeOf hs, addr_add]
  cases hx with
  | slice id off len cap e' b o c i1 i2 i3 i4 i5 =>
    simp only [iAddr] at h
    cases hr : inRange i len with
    | none => simp [hr] at h
    | some k =>
      simp [hr] at h
      obtain ⟨rfl, rfl⟩ := h
      obtain ⟨kk, j, rfl, h0, h1, rfl⟩ := inRange_ok hi hr
      refine ⟨_, run _ _ _ _ _ _ h0 h1, ?_⟩
      obtain ⟨q1, q2, _⟩ := i5 (by omega)
      subst q1; subst q2
      rw [Nat.add_assoc]
      exact .ptr id _ i1 i2
  | sliceNil id off cap e' a0 i1 i2 i3 i4 =>
    simp only [iAddr] at h
    cases hr : inRange i 0 with
    | none => simp [hr] at h
    | some k => obtain ⟨kk, j, rfl, h0, h1, rfl⟩ := inRange_ok hi hr; omega
  | imm rows full nn b o c e' f i1 i2 i3 i4 i5 =>
    simp only [iAddr] at h
    cases hr : inRange i rows.length with
    | none => simp [hr] at h
    | some k =>
      cases hrow : rows[k]? with
      | none => simp [hr, hrow] at h
      | some row =>
        simp [hr, hrow] at h
        obtain ⟨he, rfl⟩ := h
        obtain ⟨kk, j, rfl, h0, h1, rfl⟩ := inRange_ok hi hr
        have := i3 _ _ hrow
        have hee : e' = esz := by omega
        subst hee
        exact ⟨_, run _ _ _ _ _ _ h0 h1, .iptr _ _ _ (f j.toNat) (fun k y hy => i4 _ _ _ _ hrow hy) (fun k y hy => i5 _ _ _ _ hrow hy)⟩
  | immNil full =>
    simp only [iAddr] at h
    cases hr : inRange i ([] : List (List AV)).length with
    | none => simp [hr] at h
    | some k => obtain ⟨kk, j, rfl, h0, h1, rfl⟩ := inRange_ok hi hr; simp at h1; omega
  | immVoid full nn a0 =>
    simp only [iAddr] at h
    cases hr : inRange i ([] : List (List AV)).length with
    | none => simp [hr] at h
    | some k => obtain ⟨kk, j, rfl, h0, h1, rfl⟩ := inRange_ok hi hr; simp at h1; omega
  | _ => simp [iAddr] at h

theorem indexArrAddr_ok {t e : TypeId} {n esz : Nat} {x r i : AV} {v iv : Value} {C : Ctx} (ht : P.underlying t = some (.array n e)) (hs : sizeT P e = some esz) (hx : VRel C x v) (hi : VRel C i iv)
    (h : aAddr n esz x i = some r) (w : World) : ∃ u, (Instr.indexAt t v iv).run P w = .ok u w ∧ VRel C r u := by
  have run : ∀ (b o : Nat) (kk : IntKind) (j : Int), 0 ≤ j → j < n → (Instr.indexAt t (.pointer (some ⟨b, o, none⟩)) (.int kk j)).run P w = .ok (.pointer (some ⟨b, o + j.toNat * esz, none⟩)) w := by
    intro b o kk j h0 h1
    unfold Instr.indexAt
    simp only [asIntOf, Sem.run_bind, Sem.run_pure, Result.andThen_ok, run_underlying_of ht, run_sureAddr]
    rw [if_pos ⟨h0, h1⟩]
    simp [run_sizeOf hs, addr_add]
  cases hx <;> simp only [aAddr] at h <;> (try cases h)
  · rename_i id off h1 h2
    cases hr : inRange i n with
    | none => simp [hr] at h
    | some k =>
      simp [hr] at h; subst h
      obtain ⟨kk, j, rfl, h0, h1', rfl⟩ := inRange_ok hi hr
      refine ⟨_, run _ _ _ _ h0 h1', ?_⟩
      rw [Nat.add_assoc]
      exact .ptr id _ h1 h2
  · rename_i cells b o g hc hr'
    cases hr : inRange i n with
    | none => simp [hr] at h
    | some k =>
      simp [hr] at h; subst h
      obtain ⟨kk, j, rfl, h0, h1', rfl⟩ := inRange_ok hi hr
      refine ⟨_, run _ _ _ _ h0 h1', .iptr _ b _ (fun q => g (j.toNat * esz + q)) (fun q y hy => ?_) (fun q y hy => ?_)⟩
      · rw [List.getElem?_drop] at hy
        have := hc _ _ hy
        rw [← Nat.add_assoc] at this; exact this
      · rw [List.getElem?_drop] at hy; exact hr' _ _ hy

theorem indexStr_ok {t : TypeId} {s : List UInt8} {i : AV} {v iv : Value} {k : Nat} {b : UInt8} {C : Ctx} (ht : P.underlying t = some .string) (hx : VRel C (.str s) v) (hi : VRel C i iv) (hk : inRange i s.length = some k) (hb : s[k]? = some b) (w : World) :
    ∃ u, (Instr.index t v iv).run P w = .ok u w ∧ VRel C (byteAV b) u := by
  cases hx
  obtain ⟨kk, j, rfl, h0, h1, rfl⟩ := inRange_ok hi hk
  refine ⟨.int .u8 b.toNat, ?_, .int _ _⟩
  unfold Instr.index
  simp only [asIntOf, Sem.run_bind, Sem.run_pure, Result.andThen_ok, run_underlying_of ht, if_pos h0]
  have hj : j.toNat < s.length := idx_lt hb
  have : (⟨s.toArray⟩ : ByteArray)[j.toNat]? = some b := by
    rw [getElem?_pos (⟨s.toArray⟩ : ByteArray) j.toNat (by rw [size_str]; exact hj)]
    rw [List.getElem?_eq_getElem hj] at hb
    rw [← hb]; rfl
  rw [this]; rfl

theorem indexArr_ok {t e : TypeId} {n esz k : Nat} {i : AV} {xs : List AV} {v iv : Value} {C : Ctx} (ht : P.underlying t = some (.array n e)) (hs : sizeT P e = some esz) (hx : VRel C (.agg xs) v) (hi : VRel C i iv) (hk : inRange i n = some k) (w : World) :
    ∃ vs : Array Value, LRel C xs vs.toList ∧ (Instr.index t v iv).run P w = (part e vs (k * esz)).run P w := by
  obtain ⟨vs, rfl, h⟩ := hx.agg_inv
  obtain ⟨kk, j, rfl, h0, h1, rfl⟩ := inRange_ok hi hk
  refine ⟨vs, h, ?_⟩
  unfold Instr.index
  simp only [asIntOf, Sem.run_bind, Sem.run_pure, Result.andThen_ok, run_underlying_of ht]
  rw [if_pos ⟨h0, h1⟩]
  simp [run_sizeOf hs]

theorem extract_ok {xs : List AV} {x : AV} {v : Value} {i : Nat} {C : Ctx} (hx : VRel C (.tuple xs) v) (h : xs[i]? = some x) (w : World) : ∃ u, (Instr.extract v i).run P w = .ok u w ∧ VRel C x u := by
  obtain ⟨vs, rfl, hl⟩ := hx.tuple_inv
  obtain ⟨_, g⟩ := hl.get
  obtain ⟨u, h1, h2⟩ := g i x h
  exact ⟨u, by simp [Instr.extract, h1], h2⟩

/-- The length of what is a text or a slice. -/
theorem lenOf_ok {x : AV} {v : Value} {n : Nat} {C : Ctx} (hx : VRel C x v) (h : lenOf x = some n) (w : World) : (Builtin.lenOf v).run P w = .ok n w := by
  cases hx <;> simp only [lenOf] at h <;> cases h <;> simp [Builtin.lenOf, size_str] <;> rfl

theorem lenStr_ok {t ty : TypeId} {s : List UInt8} {v : Value} {C : Ctx} (ht : P.underlying t = some .string) (hx : VRel C (.str s) v) (w : World) :
    (Builtin.len_ #[t] ty #[v]).run P w = .ok (.int .i64 (s.length : Int)) w := by
  cases hx
  simp [Builtin.len_, run_underlying_of ht, goInt, size_str]

theorem lenSl_ok {t e ty : TypeId} {x : AV} {v : Value} {n : Nat} {C : Ctx} (ht : P.underlying t = some (.slice e)) (hx : VRel C x v) (h : lenSl x = some n) (w : World) :
    (Builtin.len_ #[t] ty #[v]).run P w = .ok (.int .i64 (n : Int)) w := by
  cases hx <;> simp only [lenSl, lenOf] at h <;> cases h
  all_goals simp [Builtin.len_, run_underlying_of ht, goInt]

theorem capOf_ok {t e ty : TypeId} {x : AV} {v : Value} {n : Int} {C : Ctx} (ht : P.underlying t = some (.slice e)) (hx : VRel C x v)
    (h : capV x = some n) (w : World) :
    (Builtin.cap_ #[t] ty #[v]).run P w = .ok (.int .i64 n) w := by
  cases hx with
  | nilslice => simp [capV] at h; subst h; simp [Builtin.cap_, run_underlying_of ht, goInt]
  | slice id off len cap esz b o c i1 i2 i3 i4 i5 =>
    cases cap with
    | none => simp [capV] at h
    | some k => simp [capV] at h; have := i4 k rfl; subst this; subst h; simp [Builtin.cap_, run_underlying_of ht, goInt]
  | sliceNil id off cap esz a0 i1 i2 i3 i4 =>
    cases cap with
    | none => simp [capV] at h
    | some k => simp [capV] at h; have := i3 k rfl; subst this; subst h; simp [Builtin.cap_, run_underlying_of ht, goInt]
  | imm rows full nn b o c esz f i1 i2 i3 i4 i5 =>
    cases full with
    | false => simp [capV] at h
    | true => simp [capV] at h; have := i2 rfl; subst this; subst h; simp [Builtin.cap_, run_underlying_of ht, goInt]
  | immNil full =>
    cases full with
    | false => simp [capV] at h
    | true => simp [capV] at h; subst h; simp [Builtin.cap_, run_underlying_of ht, goInt]
  | immVoid full nn a0 =>
    cases full with
    | false => simp [capV] at h
    | true => simp [capV] at h; subst h; simp [Builtin.cap_, run_underlying_of ht, goInt]
  | _ => simp [capV] at h

end
end Go.Gz
