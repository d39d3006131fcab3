/- Each operation of the model does what the abstract one says: what is built, cut, indexed. -/
import Derived.Test.YtnooejmbhdgbpaaGreatDoorK6
set_option linter.unusedVariables false
set_option linter.unusedSimpArgs false
namespace Go.Gz

section
variable {P : Program} {σ : AHeap} {ρ : Nat → Place} {w : World} {G : Nat → Prop}

theorem foldl_set (off : Nat) : ∀ (vs : List Value) (k : Nat) (cells : Array Value), off + k + vs.length ≤ cells.size →
    ((vs.zipIdx k).foldl (fun (cs : Array Value) (p : Value × Nat) => cs.setIfInBounds (off + p.2) p.1) cells).toList = cells.toList.take (off + k) ++ vs ++ cells.toList.drop (off + k + vs.length)
  | [], k, cells, _ => by simp
  | v :: r, k, cells, h => by
    simp only [List.zipIdx_cons, List.foldl_cons]
    simp only [List.length_cons] at h
    rw [foldl_set off r (k + 1) _ (by simp; omega)]
    have e := list_seg_step cells.toList (off + k) v r (by simp; omega)
    simp only [Array.toList_setIfInBounds, List.length_cons]
    simpa [Nat.add_assoc, Nat.add_comm, Nat.add_left_comm] using e

theorem splice_lrel {C : Ctx} {cs xs r : List AV} {c vs : List Value} {o : Nat} (hp : put cs o xs = some r) (hc : LRel C cs c) (hx : LRel C xs vs) :
    LRel C r (c.take o ++ vs ++ c.drop (o + vs.length)) := by
  obtain ⟨h1, rfl⟩ := put_some hp
  rw [hx.1]
  exact ((hc.take o).append hx).append (hc.drop _)

/-- The parts laid into the cells of a zero value. -/
theorem fill_ok {C : Ctx} (place : Nat → Option (Nat × Nat)) : ∀ (ps : List (Nat × Value)) (qs : List (Nat × Nat × AV)) (cells : List AV) (vs : Array Value) (r : List AV),
    qs.length = ps.length → (∀ (i : Nat) p q, ps[i]? = some p → qs[i]? = some q → place p.1 = some (q.1, q.2.1) ∧ VRel C q.2.2 p.2) → LRel C cells vs.toList → fillParts cells qs = some r →
    ∃ us, Instr.fill place vs ps = some us ∧ LRel C r us.toList
  | [], [], cells, vs, r, _, _, hc, h => by simp [fillParts] at h; subst h; exact ⟨vs, rfl, hc⟩
  | [], q :: _, _, _, _, hl, _, _, _ => by simp at hl
  | p :: ps, [], _, _, _, hl, _, _, _ => by simp at hl
  | (i, v) :: ps, (off, size, x) :: qs, cells, vs, r, hl, hpq, hc, h => by
    obtain ⟨h1, h2⟩ := hpq 0 _ _ rfl rfl
    simp only [fillParts] at h
    split at h
    case h_2 => cases h
    rename_i cs hcs
    split at h
    case isFalse => cases h
    rename_i hsz
    cases hp : put cells off cs with
    | none => simp [hp] at h
    | some cells' =>
      simp [hp] at h
      have hv := cells?_rel h2 hcs
      obtain ⟨p1, p2⟩ := put_some hp
      have l1 : v.cells.size = cs.length := by rw [hv.1]; simp
      have l2 : cells.length = vs.size := by rw [hc.1]; simp
      have hs := splice_lrel hp hc hv
      have hf : ((v.cells.zipIdx).foldl (fun (cs : Array Value) (p : Value × Nat) => cs.setIfInBounds (off + p.2) p.1) vs).toList = vs.toList.take off ++ v.cells.toList ++ vs.toList.drop (off + v.cells.toList.length) := by
        rw [← Array.foldl_toList, Array.toList_zipIdx]
        have := foldl_set off v.cells.toList 0 vs (by simp; omega)
        simpa using this
      obtain ⟨us, hu1, hu2⟩ := fill_ok place ps qs cells' ((v.cells.zipIdx).foldl (fun (cs : Array Value) (p : Value × Nat) => cs.setIfInBounds (off + p.2) p.1) vs) r (by simpa using hl)
        (fun i p q hp hq => hpq (i + 1) p q (by simpa using hp) (by simpa using hq)) (by rw [hf]; exact hs) h
      refine ⟨us, ?_, hu2⟩
      simp only at h1
      simp only [Instr.fill, h1]
      rw [if_neg]
      · exact hu1
      · simp; omega

theorem cParts_ok {N : Nat} {e : Env} {a : Act} {C : Ctx} (he : EnvRel C N e a) (place : Nat → Option (Nat × Nat)) : ∀ {ps : List (Nat × Operand)} {qs : List (Nat × Nat × Opd)}, cParts N place ps = some qs →
    (qs.map fun (o, s, x) => (o, s, x.ev e)).length = (ps.map fun (i, x) => (i, a.eval x)).length ∧
    ∀ (i : Nat) p q, (ps.map fun (i, x) => (i, a.eval x))[i]? = some p → (qs.map fun (o, s, x) => (o, s, x.ev e))[i]? = some q → place p.1 = some (q.1, q.2.1) ∧ VRel C q.2.2 p.2
  | [], qs, h => by simp [cParts] at h; subst h; simp
  | (j, x) :: ps, qs, h => by
    simp only [cParts] at h
    split at h
    case h_2 => cases h
    rename_i o s y ys h1 h2 h3
    cases h
    obtain ⟨k1, k2⟩ := cParts_ok he place h3
    refine ⟨by simpa using k1, fun i p q hp hq => ?_⟩
    cases i with
    | zero => simp at hp hq; subst hp; subst hq; exact ⟨h1, cOpd_rel h2 he⟩
    | succ i => exact k2 i p q (by simpa using hp) (by simpa using hq)

theorem zero_run {t : TypeId} {z : List AV} (h : zeroT P t = some z) (C : Ctx) (w : World) : ∃ v, (zeroValue t).run P w = .ok v w ∧ LRel C z v.cells.toList := by
  unfold zeroT at h
  cases hi : P.info? t with
  | none => simp [hi] at h
  | some i =>
    cases hzz : i.zero with
    | none => simp [hi, hzz] at h
    | some v =>
      simp [hi, hzz] at h
      exact ⟨v, by simp [zeroValue, typeInfo, hi, hzz], ofVals_rel h⟩

theorem fieldPlaces_run : ∀ {fs : List Field} {l : List (Nat × Nat)}, fieldPlaces P fs = some l → ∀ w, (fs.mapM (fun f => do pure (f.offset, ← sizeOf f.type) : Field → Sem (Nat × Nat))).run P w = .ok l w
  | [], l, h, w => by simp [fieldPlaces] at h; subst h; simp
  | f :: fs, l, h, w => by
    simp only [fieldPlaces] at h
    split at h
    case h_2 => cases h
    rename_i s l' h1 h2
    cases h
    have := fieldPlaces_run h2 w
    simp only [List.mapM_cons, Sem.run_bind, run_sizeOf h1 w, this, Result.andThen_ok, Sem.run_pure]

theorem build_struct_ok {t : TypeId} {fs : Array Field} {l : List (Nat × Nat)} {z r : List AV} {ps : List (Nat × Value)} {qs : List (Nat × Nat × AV)} {C : Ctx} (ht : P.underlying t = some (.struct fs)) (hl : fieldPlaces P fs.toList = some l) (hz : zeroT P t = some z)
    (hq : qs.length = ps.length ∧ ∀ (i : Nat) p q, ps[i]? = some p → qs[i]? = some q → l[p.1]? = some (q.1, q.2.1) ∧ VRel C q.2.2 p.2) (hr : fillParts z qs = some r) (w : World) :
    ∃ v, (Instr.build t ps.toArray).run P w = .ok v w ∧ VRel C (.agg r) v := by
  obtain ⟨zv, h1, h2⟩ := zero_run hz C w
  obtain ⟨us, h3, h4⟩ := fill_ok (l[·]?) ps qs z zv.cells r hq.1 hq.2 h2 hr
  refine ⟨.agg us, ?_, h4.agg⟩
  have hm : (fs.mapM (fun f => do pure (f.offset, ← sizeOf f.type) : Field → Sem (Nat × Nat))).run P w = .ok l.toArray w := by
    have := fieldPlaces_run hl w
    rw [Array.mapM_eq_mapM_toList]
    simp only [Sem.run_map, this, Result.andThen_ok]
  have hpl : (fun (i : Nat) => l.toArray[i]?) = (fun (i : Nat) => l[i]?) := by funext i; simp
  unfold Instr.build
  simp only [Sem.run_bind, h1, run_underlying_of ht, Result.andThen_ok, hm, hpl]
  simp [h3]

theorem build_array_ok {t e : TypeId} {n s : Nat} {z r : List AV} {ps : List (Nat × Value)} {qs : List (Nat × Nat × AV)} {C : Ctx} (ht : P.underlying t = some (.array n e)) (hs : sizeT P e = some s) (hz : zeroT P t = some z)
    (hq : qs.length = ps.length ∧ ∀ (i : Nat) p q, ps[i]? = some p → qs[i]? = some q → (fun i => some (i * s, s)) p.1 = some (q.1, q.2.1) ∧ VRel C q.2.2 p.2) (hr : fillParts z qs = some r) (w : World) :
    ∃ v, (Instr.build t ps.toArray).run P w = .ok v w ∧ VRel C (.agg r) v := by
  obtain ⟨zv, h1, h2⟩ := zero_run hz C w
  obtain ⟨us, h3, h4⟩ := fill_ok (fun i => some (i * s, s)) ps qs z zv.cells r hq.1 hq.2 h2 hr
  refine ⟨.agg us, ?_, h4.agg⟩
  unfold Instr.build
  simp only [Sem.run_bind, h1, run_underlying_of ht, Result.andThen_ok, run_sizeOf hs]
  simp [h3]

theorem zeros_rel {C : Ctx} {z : List AV} {zv : Array Value} (hz : LRel C z zv.toList) (k : Nat) : LRel C (List.replicate k z).flatten ((Array.range (k * zv.size)).map (zv[· % zv.size]!)).toList := by
  have hl := hz.1
  simp at hl
  refine ⟨by simp [hl], fun i x v hx hv => ?_⟩
  have hi := idx_lt hx
  simp [hl] at hi
  have h0 : 0 < zv.size := by
    rcases Nat.eq_zero_or_pos zv.size with e | e
    · rw [e] at hi; simp at hi
    · exact e
  have hm := Nat.mod_lt i h0
  have e1 : (List.replicate k z).flatten[i]? = z[i % zv.size]? := by
    clear hx hv
    induction k generalizing i with
    | zero => simp at hi
    | succ k ih =>
      rw [List.replicate_succ, List.flatten_cons, List.getElem?_append]
      split
      · rw [Nat.mod_eq_of_lt (by omega)]
      · rename_i hge
        rw [hl] at hge ⊢
        have hge' : zv.size ≤ i := by omega
        rw [ih (i - zv.size) (by rw [Nat.succ_mul] at hi; omega) (Nat.mod_lt _ h0)]
        rw [Nat.mod_eq_sub_mod hge']
  rw [e1] at hx
  simp [hi] at hv
  subst hv
  exact hz.2 _ _ _ hx (by simp [hm])

/-- A new row of the call's own. -/
theorem newRow_ok {e : TypeId} {cs : List AV} {c : Array Value} (hw : WRel σ ρ w G) (hl : cs.length ≤ c.size) (hc : ∀ (i : Nat) x, cs[i]? = some x → ∃ v, c[i]? = some v ∧ VRel (ctx σ ρ w G) x v) (d : Nat) (fr : Nat × Nat) (hfr : (∀ i, i < c.size → ¬ (fr.1 ≤ i ∧ i < fr.2)) ∧ fr.1 ≤ fr.2)
    (len cn esz : Nat) (cap : Option Nat) (h1 : len ≤ cn) (h2 : ∀ k, cap = some k → cn = k) (h3 : cn * esz ≤ c.size) :
    ∃ ρ', Keeps σ ρ w (hpush σ cs) ρ' { w with heap := w.heap.push (.cells c e fr), drawn := d } ∧ WRel (hpush σ cs) ρ' { w with heap := w.heap.push (.cells c e fr), drawn := d } G ∧
      VRel (ctx (hpush σ cs) ρ' { w with heap := w.heap.push (.cells c e fr), drawn := d } G) (.slice σ.length 0 len cap esz) (.slice (some ⟨w.heap.size, 0, none⟩) len cn) := by
  refine ⟨_, push_keeps hw cs _ ⟨w.heap.size, 0, c.size, false, e⟩ (fun _ => Nat.le_refl _) d, push_wrel hw cs c e fr d hfr hl hc, ?_⟩
  exact .slice _ _ _ _ _ _ _ _ (by simp [ctx, hpush]) (by simp [ctx, ext_new]) h1 h2 (fun _ => by simp only [ctx, ext_new]; exact ⟨trivial, trivial, by omega⟩)

theorem LRel.get {C : Ctx} {xs : List AV} {c : Array Value} (h : LRel C xs c.toList) : xs.length ≤ c.size ∧ ∀ (i : Nat) x, xs[i]? = some x → ∃ v, c[i]? = some v ∧ VRel C x v := by
  refine ⟨by rw [h.1]; simp, fun i x hx => ?_⟩
  have hlt := idx_lt hx
  rw [h.1] at hlt
  exact ⟨c.toList[i], by simp at hlt; simp [hlt], h.2 i x _ hx (by simp at hlt; simp [hlt])⟩

theorem buildSlice_ok {t e : TypeId} {len s : Nat} {z r : List AV} {ps : List (Nat × Value)} {qs : List (Nat × Nat × AV)} (hw : WRel σ ρ w G) (ht : P.underlying t = some (.slice e)) (hs : sizeT P e = some s) (hz : zeroT P e = some z) (hzl : z.length = s) (hs0 : s ≠ 0) (hle : len * s ≤ 16777216)
    (hq : qs.length = ps.length ∧ ∀ (i : Nat) p q, ps[i]? = some p → qs[i]? = some q → (fun i => some (i * s, s)) p.1 = some (q.1, q.2.1) ∧ VRel (ctx σ ρ w G) q.2.2 p.2) (hr : fillParts ((List.replicate len z).flatten) qs = some r) :
    VOk P (Instr.buildSlice t len ps.toArray) σ ρ w G (.slice σ.length 0 len (some len) s) (hpush σ r) := by
  obtain ⟨zv, h1, h2⟩ := zero_run hz (ctx σ ρ w G) w
  have hzs : zv.cells.size = s := by have := h2.1; simp at this; omega
  have hzr := zeros_rel h2 len
  rw [hzs] at hzr
  obtain ⟨us, h3, h4⟩ := fill_ok (fun i => some (i * s, s)) ps qs _ _ r hq.1 hq.2 hzr hr
  have hlen : r.length = len * s := by
    have : ∀ (qs : List (Nat × Nat × AV)) (cells r : List AV), fillParts cells qs = some r → r.length = cells.length := by
      intro qs
      induction qs with
      | nil => intro cells r h; simp [fillParts] at h; rw [h]
      | cons q qs ih =>
        intro cells r h
        obtain ⟨o, sz, x⟩ := q
        simp only [fillParts] at h
        split at h
        case h_2 => cases h
        split at h
        case isFalse => cases h
        rename_i cs _ _
        cases hp : put cells o cs with
        | none => simp [hp] at h
        | some c' => simp [hp] at h; rw [ih _ _ h, put_length hp]
    rw [this qs _ r hr]; simp [hzl]
  obtain ⟨g1, g2⟩ := h4.get
  have hus : us.size = len * s := by have := h4.1; simp at this; omega
  obtain ⟨ρ', k1, k2, k3⟩ := newRow_ok (e := e) hw g1 g2 w.drawn (0, 0) (by simp) len len s (some len) (Nat.le_refl _) (by simp) (by omega)
  refine ⟨_, _, ρ', ?_, k1, k2, k3⟩
  unfold Instr.buildSlice
  simp only [Sem.run_bind, run_underlying_of ht, Result.andThen_ok, run_sizeOf hs]
  rw [if_neg (by omega)]
  have fin : ∀ zero : Array Value, (Array.range (len * s)).map (fun x => zero[x % zero.size]!) = (Array.range (len * s)).map (fun x => zv.cells[x % s]!) →
      (match Instr.fill (fun i => some (i * s, s)) ((Array.range (len * s)).map (fun x => zero[x % zero.size]!)) ps with
        | some cells => do pure (Value.slice (some (← newRow e cells)) len len)
        | _ => stuck "buildSlice: a part of the wrong size" : Sem Value).run P w = .ok (.slice (some ⟨w.heap.size, 0, none⟩) len len) { w with heap := w.heap.push (.cells us e (0, 0)), drawn := w.drawn } := by
    intro zero hz
    rw [hz, h3]
    simp [newRow]
  by_cases h0 : len * s = 0
  · rw [if_pos h0]
    simp only [Sem.run_bind, Sem.run_pure, Result.andThen_ok]
    exact fin #[] (by simp [h0])
  · rw [if_neg h0]
    simp only [Sem.run_bind, Sem.run_pure, Result.andThen_ok, h1]
    exact fin zv.cells (by rw [hzs])

theorem makeSlice_ok {t e : TypeId} {s by_ : Nat} {z : List AV} {l c : Int} {kl kc : IntKind} (hw : WRel σ ρ w G) (ht : P.underlying t = some (.slice e)) (hs : sizeT P e = some s) (hb : bytesT P e = some by_) (hz : zeroT P e = some z) (hzl : z.length = s) (hs0 : s ≠ 0)
    (h : 0 ≤ l ∧ l ≤ c ∧ c ≤ 9223372036854775807 ∧ by_ * c ≤ 281474976710656) :
    VOk P (Instr.makeSlice t (.int kl l) (.int kc c)) σ ρ w G (.slice σ.length 0 l.toNat (some c.toNat) s) (hpush σ ((List.replicate c.toNat z).flatten)) := by
  obtain ⟨zv, h1, h2⟩ := zero_run hz (ctx σ ρ w G) w
  have hzs : zv.cells.size = s := by have := h2.1; simp at this; omega
  have hzr := zeros_rel h2 c.toNat
  rw [hzs] at hzr
  have hwl : IntKind.i64.wrap l = l := by unfold IntKind.wrap; simp [IntKind.bits, IntKind.signed]; omega
  have hwc : IntKind.i64.wrap c = c := by unfold IntKind.wrap; simp [IntKind.bits, IntKind.signed]; omega
  obtain ⟨i, hi, hbi⟩ : ∃ i, P.info? e = some i ∧ i.bytes = by_ := by
    unfold bytesT at hb
    cases hi : P.info? e with
    | none => simp [hi] at hb
    | some i => simp [hi] at hb; exact ⟨i, rfl, hb⟩
  have hsz : i.size = s := by obtain ⟨j, hj, hjs⟩ := sizeT_info hs; rw [hi] at hj; cases hj; exact hjs
  obtain ⟨g1, g2⟩ := hzr.get
  obtain ⟨ρ', k1, k2, k3⟩ := newRow_ok (e := e) hw g1 g2 w.drawn (0, 0) (by simp) l.toNat c.toNat s (some c.toNat) (by omega) (by simp) (by simp)
  refine ⟨_, _, ρ', ?_, k1, k2, k3⟩
  have hn1 : (i.bytes : Int) * c ≤ 281474976710656 := by rw [hbi]; exact h.2.2.2
  unfold Instr.makeSlice
  simp only [Sem.run_bind, run_underlying_of ht, Result.andThen_ok, asInt, asIntOf, Sem.run_pure, typeInfo, run_program, hi, hwl, hwc]
  have hc1 : (decide (c < 0) || decide ((i.bytes : Int) * c > 2 ^ 48)) = false := by
    have e1 : decide (c < 0) = false := by simp; omega
    have e2 : decide ((i.bytes : Int) * c > 2 ^ 48) = false := by simp; omega
    rw [e1, e2]; rfl
  have hc2 : decide (l < 0) = false := by simp; omega
  have hc3 : decide (l > c) = false := by simp; omega
  simp only [hc1, hc2, hc3, Bool.or_self, Bool.false_eq_true, if_false, Sem.run_bind, Sem.run_pure, run_askRoom, Result.andThen_ok, run_sizeOf hs, newRow]
  by_cases h0 : c.toNat * s = 0
  · rw [if_pos h0]
    have hr0 : Array.range 0 = (#[] : Array Nat) := rfl
    simp [h0, hr0]
  · rw [if_neg h0]
    simp [h1, hzs]

end
end Go.Gz
