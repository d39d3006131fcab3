/- Each operation of the model does what the abstract one says: numbers, texts, parts of values, addresses. -/
import Derived.Test.YtnooejmbhdgbpaaGreatDoorK5
set_option linter.unusedVariables false
set_option linter.unusedSimpArgs false
namespace Go.Gz

section
variable {P : Program} {σ : AHeap} {ρ : Nat → Place} {w : World} {G : Nat → Prop}

theorem toList_str (s : List UInt8) : (⟨s.toArray⟩ : ByteArray).toList = s := by rw [ByteArray.toList_eq]
theorem size_str (s : List UInt8) : (⟨s.toArray⟩ : ByteArray).size = s.length := by simp [ByteArray.size]

theorem intBin_ok {op : BinOp} {k : IntKind} {a b : Int} {z : AV} (h : intBin op k a b = some z) (t : TypeId) (w : World) (C : Ctx) : ∃ v, (binOp op t (.int k a) (.int k b)).run P w = .ok v w ∧ VRel C z v := by
  cases op <;> simp only [intBin] at h
  case quo =>
    split at h <;> cases h
    exact ⟨_, by simp [binOp, Op.intDiv, *], .int _ _⟩
  case rem =>
    split at h <;> cases h
    exact ⟨_, by simp [binOp, Op.intDiv, *], .int _ _⟩
  all_goals first
    | (cases h; refine ⟨_, ?_, VRel.int _ _⟩; simp [binOp, Op.intArith, Op.intBits, Op.intCmp]; done)
    | (cases h; refine ⟨_, ?_, VRel.bool _⟩; simp [binOp, Op.intArith, Op.intBits, Op.intCmp]; done)
    | cases h

theorem shiftBin_ok {op : BinOp} (ho : op = .shl ∨ op = .shr) {k k' : IntKind} {a b : Int} {z : AV} (h : shiftBin op k a b = some z) (t : TypeId) (w : World) (C : Ctx) : ∃ v, (binOp op t (.int k a) (.int k' b)).run P w = .ok v w ∧ VRel C z v := by
  unfold shiftBin at h
  split at h
  · cases h
  · rename_i hb
    rcases ho with rfl | rfl <;> simp only at h <;> cases h
    · exact ⟨_, by simp [binOp, Op.shift, hb], .int _ _⟩
    · exact ⟨_, by simp [binOp, Op.shift, hb], .int _ _⟩

theorem strBin_ok {op : BinOp} {a b : List UInt8} {z : AV} (h : strBin op a b = some z) (t : TypeId) (w : World) (C : Ctx) :
    ∃ v, (binOp op t (.string ⟨a.toArray⟩) (.string ⟨b.toArray⟩)).run P w = .ok v w ∧ VRel C z v := by
  cases op <;> simp only [strBin] at h
  case add =>
    split at h <;> cases h
    rename_i hl
    refine ⟨.string ⟨(a ++ b).toArray⟩, ?_, .str _⟩
    have h1 : ¬ (((⟨a.toArray⟩ : ByteArray).size + (⟨b.toArray⟩ : ByteArray).size : Nat) : Int) > IntKind.i64.max := by
      rw [size_str, size_str]
      have : IntKind.i64.max = 9223372036854775807 := by decide
      unfold maxInt at hl
      omega
    simp only [binOp, Op.stringOp, h1, if_false, Sem.run_pure]
    congr 2
  all_goals first
    | (cases h; exact ⟨_, by simp [binOp, Op.stringOp, toList_str]; done, .bool _⟩)
    | cases h

theorem nilEqP_ok {x y : AV} {v u : Value} {b : Bool} {t e : TypeId} {C : Ctx} (hx : VRel C x v) (hy : VRel C y u) (h : nilEqP x y = some b)
    (he : P.underlying t = some (.pointer e)) (hz : (sizeT P e).isSome = true) (d : Nat) (w : World) : (Op.equalIn (d + 1) t v u).run P w = .ok b w ∧ ∃ a, v = .pointer a := by
  have run := run_underlying_of he w
  obtain ⟨sz, hsz⟩ := Option.isSome_iff_exists.1 hz
  have hrun := run_sizeOf hsz w
  cases hx <;> cases hy <;> simp only [nilEqP] at h <;> (try cases h)
  all_goals first
    | (split at h
       · rename_i he; cases h; obtain ⟨rfl, _⟩ := he; (try subst_vars)
         refine ⟨?_, _, rfl⟩
         simp only [Op.equalIn, Sem.run_bind, run, Result.andThen_ok]
         simp [hrun, sameAddr]
       · cases h)
    | exact ⟨by simp [Op.equalIn, run], _, rfl⟩

theorem nilEqS_ok {x y : AV} {v u : Value} {b : Bool} {t e : TypeId} {C : Ctx} (hx : VRel C x v) (hy : VRel C y u) (h : nilEqS x y = some b)
    (he : P.underlying t = some (.slice e)) (d : Nat) (w : World) : (Op.equalIn (d + 1) t v u).run P w = .ok b w ∧ ∃ a n c, v = .slice a n c := by
  have run := run_underlying_of he w
  cases hx <;> cases hy <;> simp only [nilEqS] at h <;> (try cases h)
  all_goals first
    | (split at h <;> cases h; exact ⟨by simp [Op.equalIn, run], _, _, _, rfl⟩)
    | exact ⟨by simp [Op.equalIn, run], _, _, _, rfl⟩
    | (simp at h; done)

theorem nilEqF_ok {x y : AV} {v u : Value} {b : Bool} {t : TypeId} {p q : Array TypeId} {r : Bool} {C : Ctx} (hx : VRel C x v) (hy : VRel C y u) (h : nilEqF x y = some b)
    (he : P.underlying t = some (.func p q r)) (d : Nat) (w : World) : (Op.equalIn (d + 1) t v u).run P w = .ok b w ∧ (v = .nilFunc ∨ ∃ a b c, v = .func a b c) := by
  have run := run_underlying_of he w
  cases hx <;> cases hy <;> simp only [nilEqF] at h <;> (try cases h) <;> exact ⟨by simp [Op.equalIn, run], by simp⟩

def FitK (P : Program) (t : TypeId) : FK → Prop
  | .b => P.underlying t = some .bool
  | .i => ∃ k, P.underlying t = some (.int k)
  | .s => P.underlying t = some .string

theorem baseEq_ok {k : FK} {x y : AV} {v u : Value} {b : Bool} {t : TypeId} {C : Ctx} (hx : VRel C x v) (hy : VRel C y u) (h : baseEq k x y = some b)
    (ht : FitK P t k) (d : Nat) (w : World) :
    (Op.equalIn (d + 1) t v u).run P w = .ok b w := by
  cases k <;> cases hx <;> cases hy <;> simp only [baseEq] at h <;> (try cases h)
  · simp only [FitK] at ht; simp [Op.equalIn, run_underlying_of ht w]
  · obtain ⟨k, ht⟩ := ht
    split at h <;> cases h
    subst_vars
    simp [Op.equalIn, run_underlying_of ht w]
  · simp only [FitK] at ht
    rw [run_equalIn_string w d t _ _ ht, toList_str, toList_str]

theorem isAggT_base {t : TypeId} (h : P.underlying t = some .bool ∨ (∃ k, P.underlying t = some (.int k)) ∨ P.underlying t = some .string) : isAggT P t = some false := by
  unfold isAggT
  rcases h with h | ⟨k, h⟩ | h <;> rw [h]

theorem run_part1 {t : TypeId} {cs : Array Value} {o : Nat} {v : Value} (h : isAggT P t = some false) (hv : cs[o]? = some v) (w : World) : (part t cs o).run P w = .ok v w := by
  simp [part, run_isAgg h w, hv]

theorem flat_ok {C : Ctx} {xs ys : List AV} {vs us : Array Value} (hx : LRel C xs vs.toList) (hy : LRel C ys us.toList) (d : Nat) (w : World) :
    ∀ (fs : List Field) (k : Nat) (ks : List FK) (b : Bool), flatFields P k fs = some ks → cellsEq ks (xs.drop k) (ys.drop k) = some b → (Op.eqFields (d + 1) vs us fs).run P w = .ok b w
  | [], k, ks, b, hf, h => by
    simp [flatFields] at hf; subst hf
    cases h1 : xs.drop k <;> cases h2 : ys.drop k <;> rw [h1, h2] at h <;> simp [cellsEq] at h
    subst h
    simp [Op.eqFields]
  | f :: fs, k, ks, b, hf, h => by
    unfold flatFields at hf
    split at hf
    case isFalse => cases hf
    rename_i hh
    obtain ⟨hn, ho⟩ := hh
    have key : ∃ kk l, ks = kk :: l ∧ flatFields P (k + 1) fs = some l ∧ FitK P f.type kk := by
      split at hf
      · rename_i h1 h2; cases hf; exact ⟨_, _, rfl, h2, h1⟩
      · rename_i h1 h2; cases hf; exact ⟨_, _, rfl, h2, _, h1⟩
      · rename_i h1 h2; cases hf; exact ⟨_, _, rfl, h2, h1⟩
      · cases hf
    obtain ⟨kk, l, rfl, hl, ht⟩ := key
    have hagg : isAggT P f.type = some false := isAggT_base (by cases kk <;> simp only [FitK] at ht <;> simp [ht])
    cases h1 : xs.drop k with
    | nil => rw [h1] at h; simp [cellsEq] at h
    | cons x xr =>
      cases h2 : ys.drop k with
      | nil => rw [h1, h2] at h; simp [cellsEq] at h
      | cons y yr =>
        rw [h1, h2] at h
        simp only [cellsEq] at h
        split at h
        case h_2 => cases h
        rename_i a c ha hc
        cases h
        have ex : xs[k]? = some x := by have := congrArg (·[0]?) h1; simpa using this
        have ey : ys[k]? = some y := by have := congrArg (·[0]?) h2; simpa using this
        have dx : xs.drop (k + 1) = xr := by rw [← List.drop_drop, h1]; simp
        have dy : ys.drop (k + 1) = yr := by rw [← List.drop_drop, h2]; simp
        have lx := idx_lt ex; rw [hx.1] at lx
        have ly := idx_lt ey; rw [hy.1] at ly
        have vx := hx.2 k x (vs.toList[k]) ex (List.getElem?_eq_getElem lx)
        have vy := hy.2 k y (us.toList[k]) ey (List.getElem?_eq_getElem ly)
        have rx := run_part1 (P := P) (cs := vs) (o := k) (v := vs.toList[k]) hagg (by simp at lx; simp [lx]) w
        have ry := run_part1 (P := P) (cs := us) (o := k) (v := us.toList[k]) hagg (by simp at ly; simp [ly]) w
        have re := baseEq_ok (P := P) (t := f.type) vx vy ha ht d w
        have ih := flat_ok hx hy d w fs (k + 1) l c hl (by rw [dx, dy]; exact hc)
        simp only [Op.eqFields, if_pos hn, ho, Sem.run_bind, rx, ry, re, Result.andThen_ok, Sem.run_ite]
        cases a
        · simp
        · simp [ih]

theorem cellsEq_append : ∀ {l1 l2 : List FK} {xs ys : List AV} {b : Bool}, cellsEq (l1 ++ l2) xs ys = some b → ∃ b1 b2, cellsEq l1 (xs.take l1.length) (ys.take l1.length) = some b1 ∧ cellsEq l2 (xs.drop l1.length) (ys.drop l1.length) = some b2 ∧ b = (b1 && b2) ∧ l1.length ≤ xs.length ∧ l1.length ≤ ys.length
  | [], l2, xs, ys, b, h => ⟨true, b, by simp [cellsEq], by simpa using h, by simp, by simp, by simp⟩
  | k :: l1, l2, [], ys, b, h => by simp [cellsEq] at h
  | k :: l1, l2, x :: xs, [], b, h => by simp [cellsEq] at h
  | k :: l1, l2, x :: xs, y :: ys, b, h => by
    simp only [List.cons_append, cellsEq] at h
    split at h
    case h_2 => cases h
    rename_i a c ha hc
    cases h
    obtain ⟨b1, b2, h1, h2, h3, h4, h5⟩ := cellsEq_append hc
    exact ⟨a && b1, b2, by simp [cellsEq, ha, h1], by simpa using h2, by rw [h3, Bool.and_assoc], by simpa using h4, by simpa using h5⟩

theorem LRel.get' {C : Ctx} {xs : List AV} {vs : Array Value} (h : LRel C xs vs.toList) {o : Nat} {x : AV} (hx : xs[o]? = some x) : ∃ u, vs[o]? = some u ∧ VRel C x u := by
  have hl := h.1
  have h1 := idx_lt hx
  rw [hl] at h1
  have h2 : vs.toList[o]? = some vs.toList[o] := List.getElem?_eq_getElem h1
  exact ⟨vs.toList[o], by simp, h.2 o x _ hx h2⟩

theorem run_partN {t : TypeId} {xs : List AV} {vs : Array Value} {C : Ctx} (h : LRel C xs vs.toList) (w : World) {n : Nat} (ht : isAggT P t = some true) (hs : sizeT P t = some n) (o : Nat) :
    ∃ us : Array Value, (part t vs o).run P w = .ok (.agg us) w ∧ LRel C ((xs.drop o).take n) us.toList := by
  refine ⟨vs.extract o (o + n), by simp [part, run_isAgg ht w, run_sizeOf hs w], ?_⟩
  have : (vs.extract o (o + n)).toList = (vs.toList.drop o).take n := by simp [List.extract_eq_take_drop]
  rw [this]
  exact (h.drop o).take n

theorem flat_ok2 {C : Ctx} {xs ys : List AV} {vs us : Array Value} (hx : LRel C xs vs.toList) (hy : LRel C ys us.toList) (d : Nat) (w : World) :
    ∀ (fs : List Field) (k : Nat) (ks : List FK) (b : Bool), flatFields2 P k fs = some ks → cellsEq ks (xs.drop k) (ys.drop k) = some b → (Op.eqFields (d + 2) vs us fs).run P w = .ok b w
  | [], k, ks, b, hf, h => by
    simp [flatFields2] at hf; subst hf
    cases h1 : xs.drop k <;> cases h2 : ys.drop k <;> rw [h1, h2] at h <;> simp [cellsEq] at h
    subst h
    simp [Op.eqFields]
  | f :: fs, k, ks, b, hf, h => by
    unfold flatFields2 at hf
    split at hf
    case isFalse => cases hf
    rename_i hh
    obtain ⟨hn, ho⟩ := hh
    have base : ∀ kk l, ks = kk :: l → flatFields2 P (k + 1) fs = some l → FitK P f.type kk → (Op.eqFields (d + 2) vs us (f :: fs)).run P w = .ok b w := by
      rintro kk l rfl hl ht
      have hagg : isAggT P f.type = some false := isAggT_base (by cases kk <;> simp only [FitK] at ht <;> simp [ht])
      cases h1 : xs.drop k with
      | nil => rw [h1] at h; simp [cellsEq] at h
      | cons x xr =>
        cases h2 : ys.drop k with
        | nil => rw [h1, h2] at h; simp [cellsEq] at h
        | cons y yr =>
          rw [h1, h2] at h
          simp only [cellsEq] at h
          split at h
          case h_2 => cases h
          rename_i a c ha hc
          cases h
          have ex : xs[k]? = some x := by have := congrArg (·[0]?) h1; simpa using this
          have ey : ys[k]? = some y := by have := congrArg (·[0]?) h2; simpa using this
          have dx : xs.drop (k + 1) = xr := by rw [← List.drop_drop, h1]; simp
          have dy : ys.drop (k + 1) = yr := by rw [← List.drop_drop, h2]; simp
          obtain ⟨u1, g1, vx⟩ := hx.get' ex
          obtain ⟨u2, g2, vy⟩ := hy.get' ey
          have rx := run_part1 (P := P) hagg g1 w
          have ry := run_part1 (P := P) hagg g2 w
          have re := baseEq_ok (P := P) (t := f.type) vx vy ha ht (d + 1) w
          have ih := flat_ok2 hx hy d w fs (k + 1) l c hl (by rw [dx, dy]; exact hc)
          simp only [Op.eqFields, if_pos hn, ho, Sem.run_bind, rx, ry, re, Result.andThen_ok, Sem.run_ite]
          cases a
          · simp
          · simp [ih]
    split at hf
    · rename_i gs hu
      split at hf
      · rename_i l1 hl1
        split at hf
        · rename_i hh
          obtain ⟨hsz, hst⟩ := hh
          cases hl : flatFields2 P (k + l1.length) fs with
          | none => simp [hl] at hf
          | some l2 =>
            simp [hl] at hf; subst hf
            obtain ⟨b1, b2, e1, e2, rfl, _, _⟩ := cellsEq_append h
            have hagg : isAggT P f.type = some true := by simp [isAggT, hu]
            obtain ⟨us1, p1, q1⟩ := run_partN (P := P) hx w hagg hsz k
            obtain ⟨us2, p2, q2⟩ := run_partN (P := P) hy w hagg hsz k
            have hfo : P.fieldsOf f.type = gs := by simp [Program.fieldsOf, hu]
            have s1 := run_equalIn_struct (P := P) w (d + 1) f.type us1 us2 (by rw [hfo]; exact hu) hst
            rw [hfo] at s1
            have s2 := flat_ok (P := P) q1 q2 d w gs.toList 0 l1 b1 hl1 (by simpa using e1)
            have re := s1.trans s2
            have ih := flat_ok2 hx hy d w fs (k + l1.length) l2 b2 hl (by rw [← List.drop_drop, ← List.drop_drop]; exact e2)
            simp only [Op.eqFields, if_pos hn, ho, Sem.run_bind, p1, p2, re, Result.andThen_ok, Sem.run_ite]
            cases b1
            · simp
            · simp [ih]
        · cases hf
      · cases hf
    · rename_i hu
      cases hl : flatFields2 P (k + 1) fs with
      | none => simp [hl] at hf
      | some l => simp [hl] at hf; exact base _ _ hf.symm hl hu
    · rename_i kk hu
      cases hl : flatFields2 P (k + 1) fs with
      | none => simp [hl] at hf
      | some l => simp [hl] at hf; exact base _ _ hf.symm hl ⟨_, hu⟩
    · rename_i hu
      cases hl : flatFields2 P (k + 1) fs with
      | none => simp [hl] at hf
      | some l => simp [hl] at hf; exact base _ _ hf.symm hl hu
    · cases hf

/-- What an equation comes to, whatever the kind. -/
theorem eqBin_ok {k : EqK} {t : TypeId} {x y : AV} {v u : Value} {b : Bool} (hk : eqKind P t = some k) (h : eqBin k x y = some b) {C : Ctx} (hx : VRel C x v) (hy : VRel C y u) (ox oy : Operand) (op : BinOp) (w : World) :
    (Op.equal t v u).run P w = .ok b w ∧ (eqGuard op t ox oy v u).run P w = .ok () w ∧ ((∃ a, v = .bool a) ∨ (∃ a, v = .pointer a) ∨ (∃ a n c, v = .slice a n c) ∨ v = .nilFunc ∨ (∃ a b c, v = .func a b c) ∨ (∃ a, v = .agg a)) := by
  have guard_other : (∀ a, v ≠ .agg a) → v ≠ .nilIface → (eqGuard op t ox oy v u).run P w = .ok () w := by
    intro h1 h2
    cases op <;> simp [eqGuard] <;> (split <;> simp_all)
  unfold eqKind at hk
  cases k with
  | num => simp [eqBin] at h
  | bool =>
    have ht : P.underlying t = some .bool := by
      split at hk <;> first | assumption | (simp at hk; done) | (split at hk <;> simp at hk)
    have := baseEq_ok (P := P) (k := .b) (t := t) hx hy h ht 9999 w
    have hv : ∃ a, v = .bool a := by cases hx <;> cases hy <;> simp [eqBin, baseEq] at h; exact ⟨_, rfl⟩
    obtain ⟨a, rfl⟩ := hv
    exact ⟨this, guard_other (by simp) (by simp), .inl ⟨_, rfl⟩⟩
  | nilp =>
    have ht : ∃ e, P.underlying t = some (.pointer e) ∧ (sizeT P e).isSome = true := by
      split at hk <;> first | (simp at hk; done) | (rename_i hh; split at hk <;> first | (exact ⟨_, hh, ‹_›⟩) | (simp at hk; done))
    obtain ⟨e, he, hz⟩ := ht
    obtain ⟨this, a, rfl⟩ := nilEqP_ok (P := P) hx hy h he hz 9999 w
    exact ⟨this, guard_other (by simp) (by simp), .inr (.inl ⟨_, rfl⟩)⟩
  | nils =>
    have ht : ∃ e, P.underlying t = some (.slice e) := by
      split at hk <;> first | (simp at hk; done) | (rename_i hh; exact ⟨_, hh⟩) | (split at hk <;> simp at hk)
    obtain ⟨e, he⟩ := ht
    obtain ⟨this, a, n, c, rfl⟩ := nilEqS_ok (P := P) hx hy h he 9999 w
    exact ⟨this, guard_other (by simp) (by simp), .inr (.inr (.inl ⟨_, _, _, rfl⟩))⟩
  | nilf =>
    have ht : ∃ p q r, P.underlying t = some (.func p q r) := by
      split at hk <;> first | (simp at hk; done) | (rename_i hh; exact ⟨_, _, _, hh⟩) | (split at hk <;> simp at hk)
    obtain ⟨p, q, r, he⟩ := ht
    obtain ⟨this, hv⟩ := nilEqF_ok (P := P) hx hy h he 9999 w
    rcases hv with rfl | ⟨a, b', c, rfl⟩
    · exact ⟨this, guard_other (by simp) (by simp), by simp⟩
    · exact ⟨this, guard_other (by simp) (by simp), by simp⟩
  | nili => split at hk <;> first | (simp at hk; done) | (split at hk <;> simp at hk)
  | flat ks =>
    have ht : ∃ fs, P.underlying t = some (.struct fs) ∧ P.stoodInHeld t = false ∧ P.eqGuardType P.depth t = false ∧ flatFields2 P 0 fs.toList = some ks := by
      split at hk <;> first | (simp at hk; done) | skip
      rename_i fs hh
      split at hk
      · rename_i hc
        simp at hc
        cases hf : flatFields2 P 0 fs.toList with
        | none => simp [hf] at hk
        | some l => simp [hf] at hk; subst hk; exact ⟨fs, hh, hc.1, hc.2, hf⟩
      · cases hk
    obtain ⟨fs, he, hs, hg, hf⟩ := ht
    simp only [eqBin] at h
    split at h
    case h_2 => cases h
    rename_i xs ys
    obtain ⟨vs, rfl, hxs⟩ := hx.agg_inv
    obtain ⟨us, rfl, hys⟩ := hy.agg_inv
    have hfo : P.fieldsOf t = fs := by simp [Program.fieldsOf, he]
    have e1 := run_equalIn_struct (P := P) w 9999 t vs us (by rw [hfo]; exact he) hs
    have e2 := flat_ok2 (P := P) hxs hys 9997 w fs.toList 0 ks b hf (by simpa using h)
    rw [hfo] at e1
    exact ⟨e1.trans e2, run_eqGuard_agg w op t ox oy vs us hg, by simp⟩

theorem bin_ok {op : BinOp} {k : EqK} {t : TypeId} {x y z : AV} {v u : Value} (hk : eqKind P t = some k) (h : abin op k x y = some z) {C : Ctx} (hx : VRel C x v) (hy : VRel C y u) (ox oy : Operand) (w : World) :
    ∃ r, (do eqGuard op t ox oy v u; binOp op t v u : Sem Value).run P w = .ok r w ∧ VRel C z r := by
  have g1 : ∀ (k' : IntKind) n u', (eqGuard op t ox oy (.int k' n) u').run P w = .ok () w := by intro k' n u'; cases op <;> simp [eqGuard]
  have g2 : ∀ (s : ByteArray) u', (eqGuard op t ox oy (.string s) u').run P w = .ok () w := by intro k' u'; cases op <;> simp [eqGuard]
  unfold abin at h
  split at h
  · rename_i k1 a k2 b
    cases hx; cases hy
    simp only [Sem.run_bind, g1, Result.andThen_ok]
    split at h
    · exact shiftBin_ok (.inl rfl) h t w C
    · exact shiftBin_ok (.inr rfl) h t w C
    · split at h
      · subst_vars; exact intBin_ok h t w C
      · cases h
  · rename_i a b
    cases hx; cases hy
    simp only [Sem.run_bind, g2, Result.andThen_ok]
    exact strBin_ok h t w C
  · rename_i hn1 hn2
    split at h
    · cases he : eqBin k x y with
      | none => simp [he] at h
      | some b =>
        simp [he] at h; subst h
        obtain ⟨h1, h2, h3⟩ := eqBin_ok hk he hx hy ox oy .eql w
        refine ⟨.bool b, ?_, .bool _⟩
        simp only [Sem.run_bind, h2, Result.andThen_ok]
        have : (binOp .eql t v u).run P w = ((Op.equal t v u).run P w).andThen fun b w' => .ok (.bool b) w' := by
          rcases h3 with ⟨a, rfl⟩ | ⟨a, rfl⟩ | ⟨a, n, c, rfl⟩ | rfl | ⟨a, n, c, rfl⟩ | ⟨a, rfl⟩ <;> simp [binOp]
        rw [this, h1]; rfl
    · cases he : eqBin k x y with
      | none => simp [he] at h
      | some b =>
        simp [he] at h; subst h
        obtain ⟨h1, h2, h3⟩ := eqBin_ok hk he hx hy ox oy .neq w
        refine ⟨.bool (!b), ?_, .bool _⟩
        simp only [Sem.run_bind, h2, Result.andThen_ok]
        have : (binOp .neq t v u).run P w = ((Op.equal t v u).run P w).andThen fun b w' => .ok (.bool (!b)) w' := by
          rcases h3 with ⟨a, rfl⟩ | ⟨a, rfl⟩ | ⟨a, n, c, rfl⟩ | rfl | ⟨a, n, c, rfl⟩ | ⟨a, rfl⟩ <;> simp [binOp]
        rw [this, h1]; rfl
    · cases h

theorem un_ok {op : UnOp} {x z : AV} {v : Value} (h : aun op x = some z) {C : Ctx} (hx : VRel C x v) (w : World) : ∃ r, (Op.unary op v).run P w = .ok r w ∧ VRel C z r := by
  unfold aun at h
  split at h <;> cases h <;> cases hx
  · exact ⟨_, by simp [Op.unary, Op.intArith], .int _ _⟩
  · exact ⟨_, rfl, .int _ _⟩
  · exact ⟨_, by simp [Op.unary], .bool _⟩

end
end Go.Gz
