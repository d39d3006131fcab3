/- Each operation of the model does what the abstract one says: reading, numbers, texts. -/
import Derived.Test.YtnooejmbhdgbpaaGreatDoorK4
import Derived.Laws.Cells
import Derived.Lib.Strings
set_option linter.unusedVariables false
set_option linter.unusedSimpArgs false
namespace Go.Gz

def EnvRel (C : Ctx) (N : Nat) (e : Env) (a : Act) : Prop := a.tmps.size = N ∧ a.defers = [] ∧ ∀ t, t < N → VRel C (e t) (a.tmps.getD t undef)

def OpOk (P : Program) (s : Sem Next) (σ : AHeap) (ρ : Nat → Place) (w : World) (G : Nat → Prop) (x : AV) (σ' : AHeap) : Prop :=
  ∃ v w' ρ', (s.run P w = .ok (.value v) w' ∨ (s.run P w = .ok .skip w' ∧ v = undef)) ∧ Keeps σ ρ w σ' ρ' w' ∧ WRel σ' ρ' w' G ∧ VRel (ctx σ' ρ' w' G) x v

/-- The same of an operation that answers a value. -/
def VOk (P : Program) (s : Sem Value) (σ : AHeap) (ρ : Nat → Place) (w : World) (G : Nat → Prop) (x : AV) (σ' : AHeap) : Prop :=
  ∃ v w' ρ', s.run P w = .ok v w' ∧ Keeps σ ρ w σ' ρ' w' ∧ WRel σ' ρ' w' G ∧ VRel (ctx σ' ρ' w' G) x v

theorem VOk.op {P : Program} {s : Sem Value} {σ : AHeap} {ρ : Nat → Place} {w : World} {G : Nat → Prop} {x : AV} {σ' : AHeap} (h : VOk P s σ ρ w G x σ') : OpOk P (do pure (.value (← s))) σ ρ w G x σ' := by
  obtain ⟨v, w', ρ', h1, h2, h3, h4⟩ := h
  exact ⟨v, w', ρ', .inl (by simp [h1]), h2, h3, h4⟩

theorem VOk.stay {P : Program} {s : Sem Value} {σ : AHeap} {ρ : Nat → Place} {w : World} {G : Nat → Prop} {x : AV} {v : Value} (hw : WRel σ ρ w G) (h : s.run P w = .ok v w) (hv : VRel (ctx σ ρ w G) x v) : VOk P s σ ρ w G x σ :=
  ⟨v, w, ρ, h, Keeps.refl _ _ _, hw, hv⟩

theorem OpOk.stay {P : Program} {s : Sem Next} {σ : AHeap} {ρ : Nat → Place} {w : World} {G : Nat → Prop} {x : AV} {v : Value} (hw : WRel σ ρ w G) (h : s.run P w = .ok (.value v) w) (hv : VRel (ctx σ ρ w G) x v) : OpOk P s σ ρ w G x σ :=
  ⟨v, w, ρ, .inl h, Keeps.refl _ _ _, hw, hv⟩

theorem VOk.congr {P : Program} {s s' : Sem Value} {σ : AHeap} {ρ : Nat → Place} {w : World} {G : Nat → Prop} {x : AV} {σ' : AHeap} (h : VOk P s' σ ρ w G x σ') (e : s.run P w = s'.run P w) : VOk P s σ ρ w G x σ' := by
  unfold VOk at *; rw [e]; exact h

theorem ofVal1_rel {C : Ctx} {v : Value} {x : AV} (h : ofVal1 v = some x) : VRel C x v := by
  unfold ofVal1 at h
  split at h <;> cases h
  · exact .bool _
  · exact .int _ _
  · rename_i s; have := VRel.str (C := C) s.data.toList; simpa using this
  · exact .nilptr
  · exact .nilslice
  · exact .nilfunc
  · exact .nilif
  · exact .nilmap

theorem ofVals_rel {C : Ctx} : ∀ {vs : List Value} {xs : List AV}, ofVals vs = some xs → LRel C xs vs
  | [], xs, h => by simp [ofVals] at h; subst h; exact .nil C
  | v :: r, xs, h => by
    simp only [ofVals] at h
    split at h
    · rename_i x ys h1 h2
      cases h
      exact .cons (ofVal1_rel h1) (ofVals_rel h2)
    · cases h

theorem LRel.agg {C : Ctx} {xs : List AV} {vs : Array Value} (h : LRel C xs vs.toList) : VRel C (.agg xs) (.agg vs) :=
  .agg xs vs (by simpa using h.1) (fun i x v hx hv => h.2 i x v hx (by simpa using hv))
theorem LRel.tuple {C : Ctx} {xs : List AV} {vs : Array Value} (h : LRel C xs vs.toList) : VRel C (.tuple xs) (.tuple vs) :=
  .tuple xs vs (by simpa using h.1) (fun i x v hx hv => h.2 i x v hx (by simpa using hv))
theorem VRel.agg_inv {C : Ctx} {xs : List AV} {v : Value} (h : VRel C (.agg xs) v) : ∃ vs, v = .agg vs ∧ LRel C xs vs.toList := by
  cases h with
  | agg _ vs h1 h2 => exact ⟨vs, rfl, by simpa using h1, fun i x u hx hu => h2 i x u hx (by simpa using hu)⟩
theorem VRel.tuple_inv {C : Ctx} {xs : List AV} {v : Value} (h : VRel C (.tuple xs) v) : ∃ vs, v = .tuple vs ∧ LRel C xs vs.toList := by
  cases h with
  | tuple _ vs h1 h2 => exact ⟨vs, rfl, by simpa using h1, fun i x u hx hu => h2 i x u hx (by simpa using hu)⟩

theorem ofVal_rel {C : Ctx} {v : Value} {x : AV} (h : ofVal v = some x) : VRel C x v := by
  unfold ofVal at h
  split at h
  · rename_i cs
    cases hh : ofVals cs.toList with
    | none => simp [hh] at h
    | some xs => simp [hh] at h; subst h; exact (ofVals_rel hh).agg
  · exact ofVal1_rel h

theorem cOpd_rel {C : Ctx} {N : Nat} {e : Env} {a : Act} {x : Operand} {y : Opd} (h : cOpd N x = some y) (he : EnvRel C N e a) : VRel C (y.ev e) (a.eval x) := by
  unfold cOpd at h
  split at h
  · split at h <;> cases h
    exact he.2.2 _ ‹_›
  · rename_i v
    cases hh : ofVal v with
    | none => simp [hh] at h
    | some z => simp [hh] at h; subst h; exact ofVal_rel hh
  · cases h; exact .func _ [] #[] rfl (fun i x v hx => by simp at hx)
  · cases h

theorem cOpds_rel {C : Ctx} {N : Nat} {e : Env} {a : Act} (he : EnvRel C N e a) : ∀ {xs : List Operand} {ys : List Opd}, cOpds N xs = some ys → LRel C (ys.map (·.ev e)) (xs.map a.eval)
  | [], ys, h => by simp [cOpds] at h; subst h; exact .nil C
  | x :: r, ys, h => by
    simp only [cOpds] at h
    split at h
    · rename_i y zs h1 h2
      cases h
      exact .cons (cOpd_rel h1 he) (cOpds_rel he h2)
    · cases h

theorem cells?_rel {C : Ctx} {x : AV} {v : Value} {cs : List AV} (h : VRel C x v) (hc : x.cells? = some cs) : LRel C cs v.cells.toList := by
  cases h with
  | agg xs vs h1 h2 => simp [AV.cells?] at hc; subst hc; exact ⟨by simpa [Value.cells] using h1, fun i x u hx hu => h2 i x u hx (by simpa [Value.cells] using hu)⟩
  | tuple xs vs h1 h2 => simp [AV.cells?] at hc
  | unk v => simp [AV.cells?] at hc
  | _ => (simp [AV.cells?] at hc; subst hc; exact .cons (by constructor <;> assumption) (.nil C))

theorem isCell_rel {C : Ctx} {x : AV} {v : Value} (h : VRel C x v) (hc : x.isCell = true) : v.oneCell' = true := by
  cases h <;> first | rfl | (simp [AV.isCell] at hc)

/-- The cells of a block of the call's own, in the world. -/
theorem blk_cell {σ : AHeap} {ρ : Nat → Place} {w : World} {G : Nat → Prop} (hw : WRel σ ρ w G) {id : Nat} {cs : List AV} (h : σ[id]? = some (some cs)) (hn : (ρ id).nil = false) {i : Nat} {x : AV} (hx : cs[i]? = some x) :
    ∃ v, w.cell? ⟨(ρ id).blk, (ρ id).off + i, none⟩ = some v ∧ VRel (ctx σ ρ w G) x v := by
  obtain ⟨c, t, fr, h1, h2, h3, h4, h5⟩ := hw.blk id cs h hn
  obtain ⟨v, a, b⟩ := h5 i x hx
  refine ⟨v, ?_, b⟩
  have h1' : w.heap[(ρ id).blk]? = some (.cells c t fr) := h1
  simp [World.cell?, h1', a]

theorem addr_add (b o j : Nat) : (⟨b, o, none⟩ : Addr).add j = ⟨b, o + j, none⟩ := by unfold Addr.add; split <;> simp_all

/-- Cells at an address, read one behind the other. -/
theorem run_loadCells_at {P : Program} {w : World} {C : Ctx} {b o : Nat} {xs : List AV} (h : ∀ (j : Nat) x, xs[j]? = some x → ∃ v, w.cell? ⟨b, o + j, none⟩ = some v ∧ VRel C x v) :
    ∃ vs : Array Value, (loadCells ⟨b, o, none⟩ xs.length).run P w = .ok vs w ∧ LRel C xs vs.toList := by
  refine ⟨((List.range xs.length).map fun j => (w.cell? ⟨b, o + j, none⟩).getD undef).toArray, ?_, ?_⟩
  · rw [run_loadCells w ⟨b, o, none⟩ xs.length (fun j => (w.cell? ⟨b, o + j, none⟩).getD undef)]
    intro j hj
    obtain ⟨v, hv, _⟩ := h j xs[j] (by simp [hj])
    rw [addr_add, hv]; rfl
  · refine ⟨by simp, fun i x v hx hv => ?_⟩
    obtain ⟨u, hu, hr⟩ := h i x hx
    have hi := idx_lt hx
    simp [hi, hu] at hv
    subst hv; exact hr

theorem run_isAgg {P : Program} {t : TypeId} {b : Bool} (h : isAggT P t = some b) (w : World) : (isAgg t).run P w = .ok b w := by
  unfold isAggT at h
  split at h <;> rename_i hu <;> cases h
  · simp [isAgg, underlying, hu]
  · simp [isAgg, underlying, hu]
  · rename_i d hn1 hn2
    simp only [isAgg, underlying, Sem.run_bind, run_program, Result.andThen_ok, hu, Sem.run_pure]

theorem sizeT_info {P : Program} {t : TypeId} {n : Nat} (h : sizeT P t = some n) : ∃ i, P.info? t = some i ∧ i.size = n := by
  unfold sizeT at h
  cases hi : P.info? t with
  | none => simp [hi] at h
  | some i => simp [hi] at h; exact ⟨i, rfl, h⟩

theorem run_sizeOf {P : Program} {t : TypeId} {n : Nat} (h : sizeT P t = some n) (w : World) : (sizeOf t).run P w = .ok n w := by
  obtain ⟨i, h1, h2⟩ := sizeT_info h
  simp [sizeOf, typeInfo, h1, h2]

theorem run_underlying_of {P : Program} {t : TypeId} {d : TypeDesc} (h : P.underlying t = some d) (w : World) : (underlying t).run P w = .ok d w := by
  simp [underlying, h]

theorem run_sureAddr {P : Program} (a : Addr) (w : World) : (Instr.sureAddr (.pointer (some a))).run P w = .ok a w := rfl

theorem sub_some {cs xs : List AV} {o n : Nat} (h : sub cs o n = some xs) : o + n ≤ cs.length ∧ xs = (cs.drop o).take n := by
  unfold sub at h
  split at h <;> cases h
  exact ⟨‹_›, rfl⟩

theorem sub_length {cs xs : List AV} {o n : Nat} (h : sub cs o n = some xs) : xs.length = n := by
  obtain ⟨h1, rfl⟩ := sub_some h
  simp; omega

theorem sub_idx {cs xs : List AV} {o n i : Nat} {x : AV} (h : sub cs o n = some xs) (hx : xs[i]? = some x) : cs[o + i]? = some x ∧ i < n := by
  obtain ⟨h1, rfl⟩ := sub_some h
  rw [List.getElem?_take] at hx
  split at hx
  · rw [List.getElem?_drop] at hx; exact ⟨hx, ‹_›⟩
  · cases hx

section
variable {P : Program} {σ : AHeap} {ρ : Nat → Place} {w : World} {G : Nat → Prop}

theorem load1_at {t : TypeId} {a x : AV} {va : Value} (hw : WRel σ ρ w G) (ht : isAggT P t = some false) (ha : VRel (ctx σ ρ w G) a va)
    (h : ldCell σ a = some x) : ∃ b v, va = .pointer (some b) ∧ (Instr.loadAt t va).run P w = .ok v w ∧ VRel (ctx σ ρ w G) x v := by
  have hr := run_isAgg ht w
  cases ha with
  | ptr id off h1 h2 =>
    simp only [ldCell] at h
    cases hg : hget σ id with
    | none => simp [hg] at h
    | some cs =>
      simp [hg] at h
      obtain ⟨v, hv, hx⟩ := blk_cell hw (hget_some hg) h2 h
      refine ⟨_, v, rfl, ?_, hx⟩
      simp only [Instr.loadAt, loadVar, Sem.run_bind, run_sureAddr, Result.andThen_ok, hr]
      simp only [ctx] at hv ⊢
      simp [hv]
  | iptr cells b o f hc hr' =>
    simp only [ldCell] at h
    obtain ⟨h1, _⟩ := hc 0 x h
    refine ⟨_, f 0, rfl, ?_, hr' 0 x h⟩
    simp only [Instr.loadAt, loadVar, Sem.run_bind, run_sureAddr, Result.andThen_ok, hr]
    have h1' : w.cell? ⟨b, o, none⟩ = some (f 0) := h1
    simp [h1']
  | _ => simp [ldCell] at h

theorem loadN_at {t : TypeId} {n : Nat} {a : AV} {xs : List AV} {va : Value} (hw : WRel σ ρ w G) (ht : isAggT P t = some true) (hs : sizeT P t = some n) (ha : VRel (ctx σ ρ w G) a va)
    (h : ldCells σ n a = some xs) : ∃ b v, va = .pointer (some b) ∧ (Instr.loadAt t va).run P w = .ok v w ∧ VRel (ctx σ ρ w G) (.agg xs) v := by
  have hr := run_isAgg ht w
  have hz := run_sizeOf hs w
  have key : ∀ b o, va = .pointer (some ⟨b, o, none⟩) → xs.length = n → (∀ (j : Nat) x, xs[j]? = some x → ∃ v, w.cell? ⟨b, o + j, none⟩ = some v ∧ VRel (ctx σ ρ w G) x v) → ∃ b v, va = .pointer (some b) ∧ (Instr.loadAt t va).run P w = .ok v w ∧ VRel (ctx σ ρ w G) (.agg xs) v := by
    intro b o hva hl hc
    obtain ⟨vs, h1, h2⟩ := run_loadCells_at (P := P) hc
    rw [hl] at h1
    refine ⟨_, .agg vs, hva, ?_, h2.agg⟩
    subst hva
    simp [Instr.loadAt, loadVar, run_sureAddr, hr, hz, h1]
  cases ha with
  | ptr id off h1 h2 =>
    simp only [ldCells] at h
    cases hg : hget σ id with
    | none => simp [hg] at h
    | some cs =>
      simp [hg] at h
      refine key _ _ rfl (sub_length h) fun j x hx => ?_
      obtain ⟨v, hv, hx'⟩ := blk_cell hw (hget_some hg) h2 (sub_idx h hx).1
      exact ⟨v, by rw [Nat.add_assoc]; exact hv, hx'⟩
  | iptr cells b o f hc hr' =>
    simp only [ldCells] at h
    refine key b o rfl (sub_length h) fun j x hx => ?_
    have e := (sub_idx h hx).1
    rw [Nat.zero_add] at e
    exact ⟨f j, (hc j x e).1, hr' j x e⟩
  | _ => simp [ldCells] at h

theorem load1_ok {t : TypeId} {a x : AV} {va : Value} (hw : WRel σ ρ w G) (ht : isAggT P t = some false) (ha : VRel (ctx σ ρ w G) a va) (h : ldCell σ a = some x) : VOk P (Instr.loadAt t va) σ ρ w G x σ := by
  obtain ⟨b, v, _, h1, h2⟩ := load1_at hw ht ha h
  exact .stay hw h1 h2

theorem loadN_ok {t : TypeId} {n : Nat} {a : AV} {xs : List AV} {va : Value} (hw : WRel σ ρ w G) (ht : isAggT P t = some true) (hs : sizeT P t = some n) (ha : VRel (ctx σ ρ w G) a va) (h : ldCells σ n a = some xs) : VOk P (Instr.loadAt t va) σ ρ w G (.agg xs) σ := by
  obtain ⟨b, v, _, h1, h2⟩ := loadN_at hw ht hs ha h
  exact .stay hw h1 h2

theorem alloc_ok {e : TypeId} {z : List AV} (hw : WRel σ ρ w G) (hz : zeroT P e = some z) : VOk P (Instr.alloc e true (.tuple #[])) σ ρ w G (.ptr σ.length 0) (hpush σ z) := by
  unfold zeroT at hz
  cases hi : P.info? e with
  | none => simp [hi] at hz
  | some i =>
    cases hzz : i.zero with
    | none => simp [hi, hzz] at hz
    | some v =>
      simp [hi, hzz] at hz
      have hl := ofVals_rel (C := ctx σ ρ w G) hz
      refine ⟨.pointer (some ⟨w.heap.size, 0, none⟩), { w with heap := w.heap.push (.cells v.cells e (0, 0)), drawn := w.drawn }, _, ?_, push_keeps hw z _ ⟨w.heap.size, 0, v.cells.size, false, e⟩ (fun _ => Nat.le_refl _) _,
        push_wrel hw z v.cells e (0, 0) _ (by simp) (by rw [hl.1]; simp) (fun i x hx => ?_), ?_⟩
      · simp [Instr.alloc, zeroValue, typeInfo, hi, hzz, newVar, newRow]
      · have hlt := idx_lt hx
        rw [hl.1] at hlt
        exact ⟨v.cells[i]'(by simpa using hlt), by simp at hlt; simp [hlt], hl.2 i x _ hx (by simp at hlt; simp [hlt])⟩
      · have := VRel.ptr (C := ctx (hpush σ z) (ext σ ρ ⟨w.heap.size, 0, v.cells.size, false, e⟩) { w with heap := w.heap.push (.cells v.cells e (0, 0)), drawn := w.drawn } G) σ.length 0 (by simp [ctx, hpush]) (by simp [ctx, ext_new])
        simpa [ctx, ext_new] using this

theorem box_ok {e : TypeId} {x : AV} {v : Value} {z : List AV} (hw : WRel σ ρ w G) (hv : VRel (ctx σ ρ w G) x v) (hz : x.cells? = some z) : VOk P (Instr.box e v) σ ρ w G (.ptr σ.length 0) (hpush σ z) := by
  have hl := cells?_rel hv hz
  refine ⟨.pointer (some ⟨w.heap.size, 0, none⟩), { w with heap := w.heap.push (.cells v.cells e (0, 0)), drawn := w.drawn }, _, ?_, push_keeps hw z _ ⟨w.heap.size, 0, v.cells.size, false, e⟩ (fun _ => Nat.le_refl _) _,
    push_wrel hw z v.cells e (0, 0) _ (by simp) (by rw [hl.1]; simp) (fun i x hx => ?_), ?_⟩
  · simp [Instr.box, newVar, newRow]
  · have hlt := idx_lt hx
    rw [hl.1] at hlt
    exact ⟨v.cells[i]'(by simpa using hlt), by simp at hlt; simp [hlt], hl.2 i x _ hx (by simp at hlt; simp [hlt])⟩
  · have := VRel.ptr (C := ctx (hpush σ z) (ext σ ρ ⟨w.heap.size, 0, v.cells.size, false, e⟩) { w with heap := w.heap.push (.cells v.cells e (0, 0)), drawn := w.drawn } G) σ.length 0 (by simp [ctx, hpush]) (by simp [ctx, ext_new])
    simpa [ctx, ext_new] using this

theorem put_some {cs r xs : List AV} {o : Nat} (h : put cs o xs = some r) : o + xs.length ≤ cs.length ∧ r = cs.take o ++ xs ++ cs.drop (o + xs.length) := by
  unfold put at h
  split at h <;> cases h
  exact ⟨‹_›, rfl⟩

theorem put_length {cs r xs : List AV} {o : Nat} (h : put cs o xs = some r) : r.length = cs.length := by
  obtain ⟨h1, rfl⟩ := put_some h
  simp; omega

/-- What stands where in a row that was written over. -/
theorem splice_idx {α : Type} (cs xs : List α) (o i : Nat) (h : o + xs.length ≤ cs.length) :
    (cs.take o ++ xs ++ cs.drop (o + xs.length))[i]? = if o ≤ i ∧ i < o + xs.length then xs[i - o]? else cs[i]? := by
  rw [List.append_assoc, List.getElem?_append]
  simp only [List.length_take, Nat.min_eq_left (by omega : o ≤ cs.length)]
  split
  · rw [List.getElem?_take, if_pos ‹_›, if_neg (by omega)]
  · rw [List.getElem?_append]
    split
    · rw [if_pos (by omega)]
    · rw [if_neg (by omega), List.getElem?_drop]
      congr 1; omega

/-- A row of the world, cells of it written over as the abstract one's. -/
theorem splice_rel {C : Ctx} {cs xs r : List AV} {c : Array Value} {vs : List Value} {o p : Nat} (hp : put cs o xs = some r) (hl : p + cs.length ≤ c.size) (hx : LRel C xs vs)
    (hc : ∀ (i : Nat) x, cs[i]? = some x → ∃ v, c[p + i]? = some v ∧ VRel C x v) :
    ∀ (i : Nat) x, r[i]? = some x → ∃ v, (c.toList.take (p + o) ++ vs ++ c.toList.drop (p + o + vs.length)).toArray[p + i]? = some v ∧ VRel C x v := by
  obtain ⟨h1, rfl⟩ := put_some hp
  intro i x h
  rw [splice_idx _ _ _ _ h1] at h
  have e := hx.1
  rw [List.getElem?_toArray, splice_idx _ _ _ _ (by simp; omega)]
  split at h
  · rw [if_pos (by omega)]
    have hi := idx_lt h
    refine ⟨vs[i - o]'(by omega), ?_, hx.2 _ _ _ h (by simp [show i - o < vs.length by omega])⟩
    rw [show p + i - (p + o) = i - o by omega]
    simp [show i - o < vs.length by omega]
  · rw [if_neg (by omega)]
    obtain ⟨v, a, b⟩ := hc i x h
    exact ⟨v, by simpa using a, b⟩

/-- Some values stored into a block of the call's own. -/
theorem store_ok {id off : Nat} {cs r xs : List AV} {vs : List Value} (hw : WRel σ ρ w G) (h : σ[id]? = some (some cs)) (hn : (ρ id).nil = false) (hp : put cs off xs = some r) (hx : LRel (ctx σ ρ w G) xs vs) (h1 : ∀ v ∈ vs, v.oneCell' = true) :
    ∃ w', (storeCells ⟨(ρ id).blk, (ρ id).off + off, none⟩ vs).run P w = .ok () w' ∧ WRel (hset σ id r) ρ w' G ∧ Keeps σ ρ w (hset σ id r) ρ w' := by
  obtain ⟨c, t, fr, k1, k2, k3, k4, k5⟩ := hw.blk id cs h hn
  obtain ⟨p1, p2⟩ := put_some hp
  have hl := hx.1
  refine ⟨w.setRow (ρ id).blk (c.toList.take ((ρ id).off + off) ++ vs ++ c.toList.drop ((ρ id).off + off + vs.length)).toArray, ?_, ?_⟩
  · have := run_storeCells_row P (ρ id).blk ((ρ id).off + off) t fr vs 0 c w k1 k4.1 (by omega) h1
    simpa using this
  · exact set_wrel hw h hn k1 (by simp; omega) (by rw [put_length hp]; exact k3.1) (splice_rel hp (by omega) hx k5)

theorem storeAt_ok {t : TypeId} {n id off : Nat} {cs r xs : List AV} {x : AV} {va v : Value} (hw : WRel σ ρ w G) (hs : sizeT P t = some n) (ha : VRel (ctx σ ρ w G) (.ptr id off) va) (hv : VRel (ctx σ ρ w G) x v)
    (hg : hget σ id = some cs) (hx : x.cells? = some xs) (hl : xs.length = n) (hc : xs.all (·.isCell) = true) (hp : put cs off xs = some r) :
    ∃ w' ρ', (Instr.storeAt t va v).run P w = .ok () w' ∧ Keeps σ ρ w (hset σ id r) ρ' w' ∧ WRel (hset σ id r) ρ' w' G := by
  have hlr := cells?_rel hv hx
  cases ha with
  | ptr _ _ h1 h2 =>
    obtain ⟨w', h3, h4, h5⟩ := store_ok (P := P) hw (hget_some hg) h2 hp hlr (fun u hu => by
      obtain ⟨i, hi, rfl⟩ := List.mem_iff_getElem.1 hu
      have hi' : i < xs.length := by rw [hlr.1]; exact hi
      exact isCell_rel (hlr.2 i xs[i] _ (by simp [hi']) (by simp [hi])) (List.all_eq_true.1 hc _ (List.getElem_mem hi')))
    refine ⟨w', ρ, ?_, h5, h4⟩
    have hz := run_sizeOf hs w
    have hsz : v.cells.size = n := by rw [← hl, hlr.1]; simp
    simp only [ctx] at h3 ⊢
    simp [Instr.storeAt, run_sureAddr, storeVar, hz, hsz, h3]

end
end Go.Gz
