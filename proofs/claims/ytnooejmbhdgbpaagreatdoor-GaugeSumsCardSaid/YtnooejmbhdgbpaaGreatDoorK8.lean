/- Each operation of the model does what the abstract one says: cut, indexed. -/
import Derived.Test.YtnooejmbhdgbpaaGreatDoorK7
set_option linter.unusedVariables false
set_option linter.unusedSimpArgs false
namespace Go.Gz

section
variable {P : Program} {σ : AHeap} {ρ : Nat → Place} {w : World} {G : Nat → Prop}

/-- A bound that is a number. -/
theorem bound_ok {C : Ctx} {x : AV} {v : Value} {dflt top n : Nat} (hx : VRel C x v) (h : bound? (some x) dflt top = some n) (code : BoundsCode) (w : World) :
    (Instr.sliceBound v top code).run P w = .ok n w ∧ n ≤ top := by
  unfold bound? at h
  cases hx <;> simp only [ofInt?] at h <;> (try cases h)
  split at h <;> cases h
  rename_i hh
  refine ⟨?_, by omega⟩
  simp only [Instr.sliceBound, asIntOf, Sem.run_bind, Sem.run_pure, Result.andThen_ok]
  rw [if_pos hh]
  rfl

def ORel (C : Ctx) : Option AV → Option Value → Prop
  | none, none => True
  | some x, some v => VRel C x v
  | _, _ => False

theorem bounds_ok {C : Ctx} {lo hi mx : Option AV} {lv hv mv : Option Value} (hl : ORel C lo lv) (hh : ORel C hi hv) (hm : ORel C mx mv) (hmh : mx.isSome → hi.isSome) (isSl : Bool) {len top m h l : Nat}
    (h1 : bound? mx top top = some m) (h2 : bound? hi len m = some h) (h3 : bound? lo 0 h = some l) (w : World) :
    (Instr.sliceBounds isSl len top lv hv mv).run P w = .ok (l, h, m) w := by
  have e3 : ∀ code, ((match lv with | some v => Instr.sliceBound v h code | none => pure 0 : Sem Nat)).run P w = .ok l w := by
    intro code
    cases lo with
    | none => cases lv with | none => simp [bound?] at h3; subst h3; rfl | some _ => exact hl.elim
    | some x => cases lv with | none => exact hl.elim | some v => exact (bound_ok hl h3 code w).1
  cases mx with
  | none =>
    cases mv with
    | some _ => exact hm.elim
    | none =>
      simp [bound?] at h1; subst h1
      cases hi with
      | none =>
        cases hv with
        | some _ => exact hh.elim
        | none =>
          simp [bound?] at h2; subst h2
          simp only [Instr.sliceBounds, Sem.run_bind, Sem.run_pure, Result.andThen_ok]
          have := e3 .sliceB
          cases lv <;> simp_all
      | some x =>
        cases hv with
        | none => exact hh.elim
        | some v =>
          obtain ⟨k1, k2⟩ := bound_ok (P := P) hh h2 (if isSl then .sliceAcap else .sliceAlen) w
          simp only [Instr.sliceBounds, Sem.run_bind, Sem.run_pure, Result.andThen_ok, k1]
          have := e3 .sliceB
          cases lv <;> simp_all
  | some y =>
    cases mv with
    | none => exact hm.elim
    | some mvv =>
      obtain ⟨k0, _⟩ := bound_ok (P := P) hm h1 (if isSl then .slice3Acap else .slice3Alen) w
      cases hi with
      | none => simp at hmh
      | some x =>
        cases hv with
        | none => exact hh.elim
        | some v =>
          obtain ⟨k1, k2⟩ := bound_ok (P := P) hh h2 .slice3B w
          simp only [Instr.sliceBounds, Sem.run_bind, Sem.run_pure, Result.andThen_ok, k0, k1]
          have := e3 .slice3C
          cases lv <;> simp_all

theorem bound_le {x : Option AV} {d top n : Nat} (h : bound? x d top = some n) : n ≤ top ∨ n = d := by
  cases x with
  | none => simp [bound?] at h; exact .inr h.symm
  | some v =>
    unfold bound? at h
    simp only at h
    split at h
    · split at h <;> cases h
      left; omega
    · cases h

theorem bound_mono {v : AV} {d d' top top' n : Nat} (h : bound? (some v) d top = some n) (hle : top ≤ top') : bound? (some v) d' top' = some n := by
  unfold bound? at h ⊢
  simp only at h ⊢
  cases hv : ofInt? v with
  | none => rw [hv] at h; simp at h
  | some i =>
    rw [hv] at h
    simp only at h ⊢
    split at h
    · cases h; rw [if_pos (by omega)]
    · cases h

theorem slice_core {esz : Nat} {x r : AV} {v : Value} {lo hi mx : Option AV} {lv hv mv : Option Value} {C : Ctx} (isSl : Bool) (f : Option Addr → Nat → Nat → Sem Value)
    (hx : VRel C x v) (hl : ORel C lo lv) (hh : ORel C hi hv) (hm : ORel C mx mv) (hmh : mx.isSome → hi.isSome) (h : evSlice esz x lo hi mx = some r) (w : World)
    (run : ∀ (a : Option Addr) (len top l h m : Nat), (Instr.sliceBounds isSl len top lv hv mv).run P w = .ok (l, h, m) w →
      (f a len top).run P w = .ok (.slice (if m = l then a else a.map (·.add (l * esz))) (h - l) (m - l)) w) :
    ∃ a len c, v = .slice a len c ∧ ∃ u, (f a len c).run P w = .ok u w ∧ VRel C r u := by
  cases hx with
  | nilslice =>
    simp only [evSlice] at h
    split at h
    case h_2 => cases h
    rename_i m hh' l h1 h2 h3
    cases h
    have em : m = 0 := by have := bound_le h1; omega
    subst em
    have eh : hh' = 0 := by have := bound_le h2; omega
    subst eh
    have el : l = 0 := by have := bound_le h3; omega
    subst el
    exact ⟨_, _, _, rfl, _, run none 0 0 0 0 0 (bounds_ok hl hh hm hmh isSl h1 h2 h3 w), .nilslice⟩
  | slice id off len cap e' b o c i1 i2 i3 i4 i5 =>
    simp only [evSlice] at h
    generalize htop : topOf cap len = top at h
    have hct : top ≤ c ∧ (cap = none → top = len) ∧ (∀ k, cap = some k → top = k ∧ c = k) := by
      cases cap with
      | none => simp [topOf] at htop; subst htop; exact ⟨i3, by simp, by simp⟩
      | some k => simp [topOf] at htop; subst htop; have := i4 _ rfl; exact ⟨by omega, by simp, by simp; omega⟩
    split at h
    case h_2 => cases h
    rename_i m h1
    split at h
    case h_2 => cases h
    rename_i hh' h2
    split at h
    case h_2 => cases h
    rename_i l h3
    split at h
    case isFalse => cases h
    rename_i hc
    obtain ⟨c1, c2, hee⟩ := hc
    subst hee
    cases h
    -- the bounds by the world's own capacity
    have hb : ∃ m', bound? mx c c = some m' ∧ bound? hi len m' = some hh' ∧ m ≤ m' ∧ m' ≤ c ∧ (mx.isSome → m' = m) ∧ (mx = none → m' = c) := by
      cases mx with
      | none =>
        simp [bound?] at h1; subst h1
        refine ⟨c, by simp [bound?], ?_, hct.1, Nat.le_refl _, by simp, by simp⟩
        cases hi with
        | none => simpa [bound?] using h2
        | some y =>
          exact bound_mono h2 (by omega)
      | some y =>
        refine ⟨m, ?_, h2, Nat.le_refl _, ?_, by simp, by simp⟩
        · exact bound_mono h1 (by omega)
        · have := bound_le h1; omega
    obtain ⟨m', b1, b2, b3, b4, b5, b6⟩ := hb
    refine ⟨_, _, _, rfl, _, run (some ⟨b, o, none⟩) len c l hh' m' (bounds_ok hl hh hm hmh isSl b1 b2 h3 w), ?_⟩
    by_cases e0 : m' = l
    · have hl0 : hh' = l := by omega
      rw [if_pos e0]
      subst e0
      subst hl0
      rw [Nat.sub_self]
      refine .slice id _ 0 _ _ b o 0 i1 i2 (Nat.le_refl _) (fun k hk => ?_) (by omega)
      cases mx with
      | none =>
        have := b6 rfl; subst this
        cases cap with
        | none => simp at hk
        | some k' => have := hct.2.2 k' rfl; simp at hk; omega
      | some y => simp at hk; have := b5 rfl; omega
    · rw [if_neg e0]
      have hcl : l < c := by omega
      obtain ⟨q1, q2, q3⟩ := i5 (by omega)
      have ha : (some (⟨b, o, none⟩ : Addr)).map (·.add (l * e')) = some ⟨b, o + l * e', none⟩ := by simp [addr_add]
      rw [ha]
      refine .slice id _ _ _ _ _ _ _ i1 i2 (by omega) (fun k hk => ?_) (fun _ => ⟨q1, by omega, ?_⟩)
      · cases mx with
        | none =>
          have := b6 rfl; subst this
          cases cap with
          | none => simp at hk
          | some k' => have := hct.2.2 k' rfl; simp at hk; omega
        | some y => simp at hk; have := b5 rfl; omega
      · have : (l + (m' - l)) * e' ≤ c * e' := Nat.mul_le_mul_right _ (by omega)
        rw [Nat.add_mul] at this
        omega
  | sliceNil id off cap e' a0 i1 i2 i3 i4 =>
    simp only [evSlice] at h
    generalize htop : topOf cap 0 = top at h
    have ht0 : top = 0 := by
      cases cap with
      | none => simpa [topOf] using htop.symm
      | some k => have := i3 _ rfl; simp [topOf] at htop; omega
    subst ht0
    split at h
    case h_2 => cases h
    rename_i m h1
    split at h
    case h_2 => cases h
    rename_i hh' h2
    split at h
    case h_2 => cases h
    rename_i l h3
    split at h
    case isFalse => cases h
    rename_i hc
    obtain ⟨c1, c2, rfl⟩ := hc
    cases h
    have em : m = 0 := by have := bound_le h1; omega
    subst em
    have eh : hh' = 0 := by omega
    subst eh
    have el : l = 0 := by omega
    subst el
    refine ⟨_, _, _, rfl, _, run a0 0 0 0 0 0 (bounds_ok hl hh hm hmh isSl h1 h2 h3 w), ?_⟩
    refine .sliceNil id _ _ _ _ i1 i2 (fun k hk => ?_) i4
    cases mx with
    | none =>
      cases cap with
      | none => simp at hk
      | some k' => have := i3 _ rfl; simp at hk; omega
    | some y => simp at hk; omega
  | imm rows full nn b o c e' f i1 i2 i3 i4 i5 =>
    simp only [evSlice] at h
    split at h
    case h_2 => cases h
    rename_i m h1
    split at h
    case h_2 => cases h
    rename_i hh' h2
    split at h
    case h_2 => cases h
    rename_i l h3
    split at h
    case isFalse => cases h
    rename_i hc
    obtain ⟨c1, c2, c3⟩ := hc
    cases h
    have hb : ∃ m', bound? mx c c = some m' ∧ bound? hi rows.length m' = some hh' ∧ m ≤ m' ∧ m' ≤ c ∧ (mx.isSome → m' = m) ∧ (mx = none → m' = c ∧ m = rows.length) := by
      cases mx with
      | none =>
        simp [bound?] at h1; subst h1
        refine ⟨c, by simp [bound?], ?_, i1, Nat.le_refl _, by simp, by simp⟩
        cases hi with
        | none => simpa [bound?] using h2
        | some y =>
          exact bound_mono h2 (by omega)
      | some y =>
        refine ⟨m, ?_, h2, Nat.le_refl _, ?_, by simp, by simp⟩
        · exact bound_mono h1 (by omega)
        · have := bound_le h1; omega
    obtain ⟨m', b1, b2, b3, b4, b5, b6⟩ := hb
    have hmr : m ≤ rows.length := by have := bound_le h1; omega
    refine ⟨_, _, _, rfl, _, run (some ⟨b, o, none⟩) rows.length c l hh' m' (bounds_ok hl hh hm hmh isSl b1 b2 h3 w), ?_⟩
    have hlen : ((rows.take hh').drop l).length = hh' - l := by simp; omega
    have hfull : (if mx.isSome then m == hh' else full && hh' == rows.length) = true → m' - l = hh' - l := by
      intro hf
      cases mx with
      | none => simp at hf; have := i2 hf.1; have := b6 rfl; omega
      | some y => simp at hf; have := b5 rfl; omega
    by_cases hne : rows = []
    · -- nothing there: whatever the address
      subst hne
      have hh0 : hh' = 0 := by simp at hmr; omega
      subst hh0
      have hl0 : l = 0 := by omega
      subst hl0
      have ha : (if m' = 0 then some (⟨b, o, none⟩ : Addr) else (some (⟨b, o, none⟩ : Addr)).map (·.add (0 * esz))) = some ⟨b, o, none⟩ := by simp [addr_add]
      rw [ha]
      have := VRel.imm (C := C) [] (if mx.isSome then m == 0 else full && 0 == 0) nn b o (m' - 0) 0 (fun _ _ => undef) (by simp) (by intro hf; simpa using hfull hf) (by simp) (by simp) (by simp)
      simpa using this
    · have hrow : ∃ row, row ∈ rows := List.exists_mem_of_ne_nil rows hne
      obtain ⟨row0, hr0⟩ := hrow
      have ee : esz = e' := by
        have a1 := List.all_eq_true.1 c3 row0 hr0
        obtain ⟨i, hi', hg⟩ := List.mem_iff_getElem.1 hr0
        have a2 := i3 i row0 (by simp [hi', hg])
        simp at a1; omega
      subst ee
      have ha : (if m' = l then some (⟨b, o, none⟩ : Addr) else (some (⟨b, o, none⟩ : Addr)).map (·.add (l * esz))) = some ⟨b, if m' = l then o else o + l * esz, none⟩ := by
        split <;> simp [addr_add]
      rw [ha]
      have := VRel.imm (C := C) ((rows.take hh').drop l) (if mx.isSome then m == hh' else full && hh' == rows.length) nn b (if m' = l then o else o + l * esz) (m' - l) esz (fun i j => f (l + i) j) (by rw [hlen]; omega) (by rw [hlen]; exact hfull)
        (fun i row hr => ?_) (fun i row j x hr hx => ?_) (fun i row j x hr hx => ?_)
      · rw [hlen] at this; exact this
      all_goals
        rw [List.getElem?_drop, List.getElem?_take] at hr
        split at hr
        case isFalse => cases hr
        rename_i hlt
      · exact i3 _ _ hr
      · rw [if_neg (by omega)]
        have := i4 _ _ _ _ hr hx
        rw [Nat.add_mul, ← Nat.add_assoc] at this
        exact this
      · exact i5 _ _ _ _ hr hx
  | immNil full =>
    simp only [evSlice] at h
    split at h
    case h_2 => cases h
    rename_i m h1
    split at h
    case h_2 => cases h
    rename_i hh' h2
    split at h
    case h_2 => cases h
    rename_i l h3
    split at h
    case isFalse => cases h
    cases h
    simp at h1 h2
    have em : m = 0 := by have := bound_le h1; omega
    subst em
    have eh : hh' = 0 := by have := bound_le h2; omega
    subst eh
    have el : l = 0 := by have := bound_le h3; omega
    subst el
    exact ⟨_, _, _, rfl, _, run none 0 0 0 0 0 (bounds_ok hl hh hm hmh isSl h1 h2 h3 w), by simpa using VRel.immNil _⟩
  | immVoid full nn a0 =>
    simp only [evSlice] at h
    split at h
    case h_2 => cases h
    rename_i m h1
    split at h
    case h_2 => cases h
    rename_i hh' h2
    split at h
    case h_2 => cases h
    rename_i l h3
    split at h
    case isFalse => cases h
    cases h
    simp at h1 h2
    have em : m = 0 := by have := bound_le h1; omega
    subst em
    have eh : hh' = 0 := by have := bound_le h2; omega
    subst eh
    have el : l = 0 := by have := bound_le h3; omega
    subst el
    exact ⟨_, _, _, rfl, _, run (some a0) 0 0 0 0 0 (bounds_ok hl hh hm hmh isSl h1 h2 h3 w), by simpa using VRel.immVoid _ _ _⟩
  | _ => simp [evSlice] at h

theorem slice_ok {e t : TypeId} {esz : Nat} {x r : AV} {v : Value} {lo hi mx : Option AV} {lv hv mv : Option Value} (hs : sizeT P e = some esz) (ht : P.underlying t = some (.slice e)) {C : Ctx}
    (hx : VRel C x v) (hl : ORel C lo lv) (hh : ORel C hi hv) (hm : ORel C mx mv) (hmh : mx.isSome → hi.isSome) (h : evSlice esz x lo hi mx = some r) (w : World) :
    ∃ u, (Instr.slice t v lv hv mv).run P w = .ok u w ∧ VRel C r u := by
  obtain ⟨a, len, c, rfl, g⟩ := slice_core (P := P) true (fun a len c => Instr.slice t (.slice a len c) lv hv mv) hx hl hh hm hmh h w (fun a len top l h m hb => by
    simp only [Instr.slice, Sem.run_bind, run_underlying_of ht, Result.andThen_ok, hb, run_sizeOf hs, Sem.run_pure])
  exact g

theorem sliceArr_ok {e t : TypeId} {n esz id off : Nat} {r : AV} {cs : List AV} {v : Value} {lo hi mx : Option AV} {lv hv mv : Option Value} (hw : WRel σ ρ w G) (hs : sizeT P e = some esz) (ht : P.underlying t = some (.array n e)) (hg : hget σ id = some cs) (hfit : off + n * esz ≤ cs.length)
    (hx : VRel (ctx σ ρ w G) (.ptr id off) v) (hl : ORel (ctx σ ρ w G) lo lv) (hh : ORel (ctx σ ρ w G) hi hv) (hm : ORel (ctx σ ρ w G) mx mv) (hmh : mx.isSome → hi.isSome) (h : evSlice esz (.slice id off n (some n) esz) lo hi mx = some r) :
    ∃ u, (Instr.sliceAt t v lv hv mv).run P w = .ok u w ∧ VRel (ctx σ ρ w G) r u := by
  cases hx with
  | ptr _ _ h1 h2 =>
    obtain ⟨c0, t0, fr, k1, k2, k3, k4, k5⟩ := hw.blk id cs (hget_some hg) h2
    have hsl : VRel (ctx σ ρ w G) (.slice id off n (some n) esz) (.slice (some ⟨(ρ id).blk, (ρ id).off + off, none⟩) n n) := .slice _ _ _ _ _ _ _ _ h1 h2 (Nat.le_refl _) (by simp) (fun _ => ⟨rfl, rfl, Nat.le_trans hfit k3.1⟩)
    obtain ⟨a, len, c, he, u, g1, g2⟩ := slice_core (P := P) false (fun a len c => do
      let (l, h, m) ← Instr.sliceBounds false len c lv hv mv
      pure (.slice (if m = l then a else a.map (·.add (l * esz))) (h - l) (m - l))) hsl hl hh hm hmh h w (fun a len top l h m hb => by simp only [Sem.run_bind, hb, Result.andThen_ok, Sem.run_pure])
    cases he
    refine ⟨u, ?_, g2⟩
    rw [← g1]
    simp only [Instr.sliceAt, Sem.run_bind, run_underlying_of ht, Result.andThen_ok]
    simp only [ctx, run_sureAddr, Result.andThen_ok]
    cases hb : (Instr.sliceBounds false n n lv hv mv).run P w with
    | halt hh' w' => simp
    | ok q w' =>
      obtain ⟨l, h', m⟩ := q
      simp only [Result.andThen_ok, run_sizeOf hs, Sem.run_pure]
      split <;> rfl

end
end Go.Gz
