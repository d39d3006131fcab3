/- Telling less: blocks that are let go, slices that nobody writes any more, other numbers for blocks. -/
import Derived.Test.YtnooejmbhdgbpaaGreatDoorK13
set_option linter.unusedVariables false
set_option linter.unusedSimpArgs false
namespace Go.Gz

/-- A value told with less, over a heap whose blocks have other numbers: 'src id' is the block's elder number (none: there was none: a slice that is nil); 'rel s': block s is no longer told as the call's own. -/
inductive WkV (σ : AHeap) (src : Nat → Option Nat) (rel : Nat → Prop) (n : Nat) : AV → AV → Prop
  | unk (x : AV) : WkV σ src rel n x .unk
  | bool (b : Bool) : WkV σ src rel n (.bool b) (.bool b)
  | int (k : IntKind) (i : Int) : WkV σ src rel n (.int k i) (.int k i)
  | str (s : List UInt8) : WkV σ src rel n (.str s) (.str s)
  | nilptr : WkV σ src rel n .nilptr .nilptr
  | nilslice : WkV σ src rel n .nilslice .nilslice
  | nilfunc : WkV σ src rel n .nilfunc .nilfunc
  | nilif : WkV σ src rel n .nilif .nilif
  | someif : WkV σ src rel n .someif .someif
  | brow (s id len : Nat) (t : TypeId) : src id = some s → id < n → WkV σ src rel n (.brow s len t) (.brow id len t)
  | bptr (s id : Nat) (t : TypeId) : src id = some s → id < n → WkV σ src rel n (.bptr s t) (.bptr id t)
  | map (s id : Nat) : src id = some s → id < n → WkV σ src rel n (.map s) (.map id)
  | nilmap : WkV σ src rel n .nilmap .nilmap
  | ptr (s id off : Nat) : src id = some s → id < n → WkV σ src rel n (.ptr s off) (.ptr id off)
  | slice (s id off len : Nat) (cap cap' : Option Nat) (esz : Nat) : src id = some s → id < n → (cap' = cap ∨ cap' = none) → WkV σ src rel n (.slice s off len cap esz) (.slice id off len cap' esz)
  | void (id esz : Nat) : src id = none → id < n → WkV σ src rel n .nilslice (.slice id 0 0 none esz)
  | freeze (s off len : Nat) (cap : Option Nat) (esz : Nat) (cells : List AV) (rows : List (List AV)) (full nn : Bool) (g : Nat → Nat → AV) : rel s → σ[s]? = some (some cells) → rows.length = len →
      (∀ (i : Nat) (row : List AV), rows[i]? = some row → row.length = esz) → (full = true → cap = some len) → (nn = true → 0 < len) →
      (∀ (i : Nat) (row : List AV) (j : Nat) (x : AV), rows[i]? = some row → row[j]? = some x → cells[off + i * esz + j]? = some (g i j)) →
      (∀ (i : Nat) (row : List AV) (j : Nat) (x : AV), rows[i]? = some row → row[j]? = some x → WkV σ src rel n (g i j) x) → WkV σ src rel n (.slice s off len cap esz) (.imm rows full nn)
  | freezePtr (s off : Nat) (cells cells' : List AV) (g : Nat → AV) : rel s → σ[s]? = some (some cells) →
      (∀ (j : Nat) (x : AV), cells'[j]? = some x → cells[off + j]? = some (g j)) → (∀ (j : Nat) (x : AV), cells'[j]? = some x → WkV σ src rel n (g j) x) → WkV σ src rel n (.ptr s off) (.iptr cells')
  | nilImm (full : Bool) : WkV σ src rel n .nilslice (.imm [] full false)
  | imm (rows rows' : List (List AV)) (full full' nn nn' : Bool) (g : Nat → Nat → AV) : rows.length = rows'.length → (full' = true → full = true) → (nn' = true → nn = true) →
      (∀ (i : Nat) (row' : List AV), rows'[i]? = some row' → ∃ row, rows[i]? = some row ∧ row.length = row'.length ∧ ∀ (j : Nat) (x : AV), row'[j]? = some x → row[j]? = some (g i j)) →
      (∀ (i : Nat) (row' : List AV) (j : Nat) (x : AV), rows'[i]? = some row' → row'[j]? = some x → WkV σ src rel n (g i j) x) → WkV σ src rel n (.imm rows full nn) (.imm rows' full' nn')
  | iptr (cells cells' : List AV) (g : Nat → AV) : (∀ (j : Nat) (x : AV), cells'[j]? = some x → cells[j]? = some (g j)) → (∀ (j : Nat) (x : AV), cells'[j]? = some x → WkV σ src rel n (g j) x) → WkV σ src rel n (.iptr cells) (.iptr cells')
  | agg (cs cs' : List AV) (g : Nat → AV) : cs.length = cs'.length → (∀ (j : Nat) (x : AV), cs'[j]? = some x → cs[j]? = some (g j)) → (∀ (j : Nat) (x : AV), cs'[j]? = some x → WkV σ src rel n (g j) x) → WkV σ src rel n (.agg cs) (.agg cs')
  | tuple (cs cs' : List AV) (g : Nat → AV) : cs.length = cs'.length → (∀ (j : Nat) (x : AV), cs'[j]? = some x → cs[j]? = some (g j)) → (∀ (j : Nat) (x : AV), cs'[j]? = some x → WkV σ src rel n (g j) x) → WkV σ src rel n (.tuple cs) (.tuple cs')
  | func (f : FuncId) (cs cs' : List AV) (g : Nat → AV) : cs.length = cs'.length → (∀ (j : Nat) (x : AV), cs'[j]? = some x → cs[j]? = some (g j)) → (∀ (j : Nat) (x : AV), cs'[j]? = some x → WkV σ src rel n (g j) x) → WkV σ src rel n (.func f cs) (.func f cs')

/-- The places of the blocks by their new numbers. -/
def reρ (src : Nat → Option Nat) (ρ : Nat → Place) (id : Nat) : Place :=
  match src id with
  | some s => ρ s
  | none => ⟨0, 0, 0, true, 0⟩

/-- What is let go. -/
def gone (src : Nat → Option Nat) (σ1 : AHeap) (s : Nat) : Prop := ∀ (id : Nat) (c : List AV), σ1[id]? = some (some c) → src id ≠ some s

/-- A heap told with less. -/
structure WkH (n0 : Nat) (σ : AHeap) (src : Nat → Option Nat) (σ1 : AHeap) : Prop where
  old : ∀ id, id < n0 → src id = some id
  len : n0 ≤ σ1.length
  bound : ∀ (id s : Nat), id < σ1.length → src id = some s → s < σ.length
  blk : ∀ (id : Nat) (c1 : List AV) (s : Nat), σ1[id]? = some (some c1) → src id = some s → ∃ c, σ[s]? = some (some c) ∧ c1.length = c.length ∧ ∀ (i : Nat) (x1 : AV), c1[i]? = some x1 → ∃ x, c[i]? = some x ∧ WkV σ src (gone src σ1) σ1.length x x1
  void : ∀ (id : Nat) (c1 : List AV), σ1[id]? = some (some c1) → src id = none → c1 = []
  inj : ∀ (id id' : Nat) (c c' : List AV) (s : Nat), σ1[id]? = some (some c) → σ1[id']? = some (some c') → src id = some s → src id' = some s → id = id'

section
variable {σ σ1 : AHeap} {ρ : Nat → Place} {w : World} {G : Nat → Prop} {src : Nat → Option Nat} {n0 : Nat}

theorem owned_re (h : WkH n0 σ src σ1) {b : Nat} (ho : owned σ1 (reρ src ρ) b) : ∃ (s : Nat) (c : List AV), σ[s]? = some (some c) ∧ (ρ s).live ∧ (ρ s).blk = b ∧ ∃ (id : Nat) (c1 : List AV), σ1[id]? = some (some c1) ∧ src id = some s := by
  obtain ⟨id, c1, h1, h2, h3⟩ := ho
  unfold reρ at h2 h3
  split at h2
  · rename_i s hs
    rw [hs] at h3
    obtain ⟨c, hc, _⟩ := h.blk id c1 s h1 hs
    exact ⟨s, c, hc, h2, h3, id, c1, h1, hs⟩
  · simp [Place.live] at h2

theorem wkv_ok (hw : WRel σ ρ w G) (h : WkH n0 σ src σ1) {x y : AV} {v : Value} (hk : WkV σ src (gone src σ1) σ1.length x y) (hx : VRel (ctx σ ρ w G) x v) : VRel (ctx σ1 (reρ src ρ) w G) y v := by
  -- memory that is not the call's own stays so
  have hno : ∀ b, ¬ (ctx σ ρ w G).O b → ¬ (ctx σ1 (reρ src ρ) w G).O b := by
    intro b hb ho
    rcases ho with ho | ho
    · obtain ⟨s, c, h1, h2, h3, _⟩ := owned_re h ho
      exact hb (.inl ⟨s, c, h1, h2, h3⟩)
    · exact hb (.inr ho)
  -- what is let go is not the call's own
  have hrel : ∀ s c, gone src σ1 s → σ[s]? = some (some c) → (ρ s).nil = false → ¬ (ctx σ1 (reρ src ρ) w G).O (ρ s).blk := by
    intro s c hg hs hn ho
    rcases ho with ho | ho
    · obtain ⟨s', c', h1, h2, h3, id, c1, h4, h5⟩ := owned_re h ho
      have := hw.excl s' s c' c h1 hs h2 (.inl hn) h3
      subst this
      exact hg id c1 h4 h5
    · exact hw.sep s c hs (.inl hn) ho
  induction hk generalizing v with
  | unk x => exact .unk v
  | bool b => cases hx; exact .bool b
  | int k i => cases hx; exact .int k i
  | str s => cases hx; exact .str s
  | nilptr => cases hx; exact .nilptr
  | nilslice => cases hx; exact .nilslice
  | nilfunc => cases hx; exact .nilfunc
  | nilif => cases hx; exact .nilif
  | someif => cases hx; exact .someif _ _
  | brow s id len t h1 h2 =>
    have e : reρ src ρ id = ρ s := by simp [reρ, h1]
    cases hx with
    | brow _ _ _ c k1 k2 k3 k4 k5 k6 =>
      have := VRel.brow (C := ctx σ1 (reρ src ρ) w G) id len t c h2 (by simp only [ctx, e]; exact k2) (by simp only [ctx, e]; exact k3) k4 (by simp only [ctx, e]; exact k5) (by simp only [ctx, e]; exact k6)
      simpa [ctx, e] using this
  | bptr s id t h1 h2 =>
    have e : reρ src ρ id = ρ s := by simp [reρ, h1]
    cases hx with
    | bptr _ _ k1 k2 k3 k4 =>
      have := VRel.bptr (C := ctx σ1 (reρ src ρ) w G) id t h2 (by simp only [ctx, e]; exact k2) (by simp only [ctx, e]; exact k3) (by simp only [ctx, e]; exact k4)
      simpa [ctx, e] using this
  | map s id h1 h2 =>
    have e : reρ src ρ id = ρ s := by simp [reρ, h1]
    cases hx with
    | map _ k1 k2 k3 =>
      have := VRel.map (C := ctx σ1 (reρ src ρ) w G) id h2 (by simp only [ctx, e]; exact k2) (by simp only [ctx, e]; exact k3)
      simpa [ctx, e] using this
  | nilmap => cases hx; exact .nilmap
  | ptr s id off h1 h2 =>
    cases hx with
    | ptr _ _ k1 k2 =>
      have e : reρ src ρ id = ρ s := by simp [reρ, h1]
      have := VRel.ptr (C := ctx σ1 (reρ src ρ) w G) id off h2 (by simp only [ctx, e]; exact k2)
      simpa [ctx, e] using this
  | slice s id off len cap cap' esz h1 h2 h3 =>
    have e : reρ src ρ id = ρ s := by simp [reρ, h1]
    cases hx with
    | slice _ _ _ _ _ b o c k1 k2 k3 k4 k5 =>
      refine .slice id off len cap' esz b o c h2 (by simp only [ctx, e]; exact k2) k3 (fun k hk => ?_) (fun hc => by simp only [ctx, e]; exact k5 hc)
      rcases h3 with rfl | rfl
      · exact k4 k hk
      · cases hk
    | sliceNil _ _ _ _ a k1 k2 k3 k4 =>
      refine .sliceNil id off cap' esz a h2 (by simp only [ctx, e]; exact k2) (fun k hk => ?_) k4
      rcases h3 with rfl | rfl
      · exact k3 k hk
      · cases hk
  | void id esz h1 h2 =>
    cases hx
    exact .sliceNil id 0 none esz none h2 (by simp [ctx, reρ, h1]) (by simp) (by simp)
  | freeze s off len cap esz cells rows full nn g h1 h2 h3 h4 h5 h6 h7 h8 ih =>
    cases hx with
    | slice _ _ _ _ _ b o c k1 k2 k3 k4 k5 =>
      subst h3
      refine .imm rows full nn b o c esz (fun i j => (w.cell? ⟨b, o + i * esz + j, none⟩).getD undef) k3 (fun hf => k4 _ (h5 hf)) h4 (fun i row j x hr hx => ?_) (fun i row j x hr hx => ?_)
      all_goals
        have hi := idx_lt hr
        obtain ⟨q1, q2, q3⟩ := k5 (by omega)
        subst q1; subst q2
        obtain ⟨u, u1, u2⟩ := blk_cell hw h2 k2 (h7 i row j x hr hx)
        have e : w.cell? ⟨(ρ s).blk, (ρ s).off + off + i * esz + j, none⟩ = some u := by
          rw [show (ρ s).off + off + i * esz + j = (ρ s).off + (off + i * esz + j) by omega]; exact u1
      · exact ⟨by simp only [ctx] at e ⊢; rw [e]; rfl, hrel s cells h1 h2 k2⟩
      · have := ih i row j x hr hx u2
        simp only [ctx] at e this ⊢
        rw [e]; exact this
    | sliceNil _ _ _ _ a k1 k2 k3 k4 =>
      have hr0 : rows = [] := List.length_eq_zero_iff.1 h3
      subst hr0
      have hnn : nn = false := by
        cases nn with
        | false => rfl
        | true => have := h6 rfl; omega
      subst hnn
      cases a with
      | none => exact .immNil full
      | some ad => exact .immVoid full false ad
  | freezePtr s off cells cells' g h1 h2 h3 h4 ih =>
    cases hx with
    | ptr _ _ k1 k2 =>
      refine .iptr cells' _ _ (fun j => (w.cell? ⟨(ρ s).blk, (ρ s).off + off + j, none⟩).getD undef) (fun j x hx => ?_) (fun j x hx => ?_)
      all_goals
        obtain ⟨u, u1, u2⟩ := blk_cell hw h2 k2 (h3 j x hx)
        have e : w.cell? ⟨(ρ s).blk, (ρ s).off + off + j, none⟩ = some u := by
          rw [Nat.add_assoc]; exact u1
      · exact ⟨by simp only [ctx] at e ⊢; rw [e]; rfl, hrel s cells h1 h2 k2⟩
      · have := ih j x hx u2
        simp only [ctx] at e this ⊢
        rw [e]; exact this
  | nilImm full => cases hx; exact .immNil full
  | imm rows rows' full full' nn nn' g h1 h2 h3 h4 h5 ih =>
    cases hx with
    | imm _ _ _ b o c esz f k1 k2 k3 k4 k5 =>
      rw [h1] at k1 k2 ⊢
      refine .imm rows' full' nn' b o c esz f k1 (fun hf => k2 (h2 hf)) (fun i row' hr => ?_) (fun i row' j x hr hx => ?_) (fun i row' j x hr hx => ?_)
      · obtain ⟨row, r1, r2, r3⟩ := h4 i row' hr
        rw [← r2]; exact k3 i row r1
      · obtain ⟨row, r1, r2, r3⟩ := h4 i row' hr
        obtain ⟨q1, q2⟩ := k4 i row j _ r1 (r3 j x hx)
        exact ⟨q1, hno _ q2⟩
      · obtain ⟨row, r1, r2, r3⟩ := h4 i row' hr
        exact ih i row' j x hr hx (k5 i row j _ r1 (r3 j x hx))
    | immNil _ =>
      cases rows' with
      | nil =>
        cases nn' with
        | false => exact .immNil full'
        | true => have := h3 rfl; cases this
      | cons r rs => simp at h1
    | immVoid _ _ a0 =>
      cases rows' with
      | nil => exact .immVoid full' nn' a0
      | cons r rs => simp at h1
  | iptr cells cells' g h1 h2 ih =>
    cases hx with
    | iptr _ b o f k1 k2 =>
      refine .iptr cells' b o f (fun j x hx => ?_) (fun j x hx => ?_)
      · obtain ⟨q1, q2⟩ := k1 j _ (h1 j x hx)
        exact ⟨q1, hno _ q2⟩
      · exact ih j x hx (k2 j _ (h1 j x hx))
  | agg cs cs' g h1 h2 h3 ih =>
    cases hx with
    | agg _ vs k1 k2 => exact .agg cs' vs (by omega) (fun i x v hx hv => ih i x hx (k2 i _ v (h2 i x hx) hv))
  | tuple cs cs' g h1 h2 h3 ih =>
    cases hx with
    | tuple _ vs k1 k2 => exact .tuple cs' vs (by omega) (fun i x v hx hv => ih i x hx (k2 i _ v (h2 i x hx) hv))
  | func f cs cs' g h1 h2 h3 ih =>
    cases hx with
    | func _ _ vs k1 k2 => exact .func f cs' vs (by omega) (fun i x v hx hv => ih i x hx (k2 i _ v (h2 i x hx) hv))

/-- The world as it is, told with less. -/
theorem wkh_wrel (hw : WRel σ ρ w G) (h : WkH n0 σ src σ1) : WRel σ1 (reρ src ρ) w G := by
  have e : ∀ {id s : Nat}, src id = some s → reρ src ρ id = ρ s := by intro id s hs; simp [reρ, hs]
  have has : ∀ {id : Nat}, (reρ src ρ id).live → ∃ s, src id = some s := by
    intro id hn
    cases hs : src id with
    | some s => exact ⟨s, rfl⟩
    | none => simp [reρ, hs, Place.live] at hn
  refine ⟨fun id c1 h1 hn => ?_, fun id c1 h1 hn => ?_, fun id id' c c' h1 h1' hn hn' hb => ?_, fun id c1 h1 hn => ?_, hw.gsz, Glob.mono' (C := ctx σ ρ w G) (C' := ctx σ1 (reρ src ρ) w G) (fun b _ hb => ⟨fun ho => by
    rcases ho with ho | ho
    · obtain ⟨s, c, h1, h2, h3, _⟩ := owned_re h ho
      exact hb (.inl ⟨s, c, h1, h2, h3⟩)
    · exact hb (.inr ho), rfl⟩) hw.glob⟩
  · obtain ⟨s, hs⟩ := has (.inl hn)
    rw [e hs] at hn ⊢
    obtain ⟨c, hc, hl, hx⟩ := h.blk id c1 s h1 hs
    obtain ⟨cw, t, fr, k1, k2, k3, k4, k5⟩ := hw.blk s c hc hn
    refine ⟨cw, t, fr, k1, k2, ⟨by omega, k3.2⟩, k4, fun i x1 hx1 => ?_⟩
    obtain ⟨x, q1, q2⟩ := hx i x1 hx1
    obtain ⟨v, v1, v2⟩ := k5 i x q1
    exact ⟨v, v1, wkv_ok hw h q2 v2⟩
  · cases hs : src id with
    | none => exact ⟨fun he => by simp [reρ, hs] at he, fun _ => h.void id c1 h1 hs⟩
    | some s =>
      rw [e hs] at hn ⊢
      obtain ⟨c, hc, hl, hx⟩ := h.blk id c1 s h1 hs
      have hnl := hw.nil s c hc hn
      refine ⟨fun he => ?_, fun he => ?_⟩
      · obtain ⟨es, ck, q1, q2, q3, q4⟩ := hnl.1 he
        refine ⟨es, ck, q1, ⟨hl.trans q2.1, fun i x1 v hx1 hv => ?_⟩, q3, q4⟩
        obtain ⟨x, p1, p2⟩ := hx i x1 hx1
        exact wkv_ok hw h p2 (q2.2 i x v p1 hv)
      · have := hnl.2 he
        subst this
        simpa using hl
  · obtain ⟨s, hs⟩ := has hn
    obtain ⟨s', hs'⟩ := has hn'
    rw [e hs] at hn hb
    rw [e hs'] at hn' hb
    obtain ⟨d, hd, _⟩ := h.blk id c s h1 hs
    obtain ⟨d', hd', _⟩ := h.blk id' c' s' h1' hs'
    have := hw.excl s s' d d' hd hd' hn hn' hb
    subst this
    exact h.inj id id' c c' s h1 h1' hs hs'
  · obtain ⟨s, hs⟩ := has hn
    rw [e hs] at hn ⊢
    obtain ⟨d, hd, _⟩ := h.blk id c1 s h1 hs
    exact hw.sep s d hd hn

theorem wkh_keeps {σ0 : AHeap} {ρ0 : Nat → Place} {w0 : World} (k : Keeps σ0 ρ0 w0 σ ρ w) (h : WkH n0 σ src σ1) (hn : σ0.length ≤ n0) : Keeps σ0 ρ0 w0 σ1 (reρ src ρ) w where
  os := k.os
  tape := k.tape
  output := k.output
  size := k.size
  frame := k.frame
  own b hb := by
    obtain ⟨s, c, h1, h2, h3, _⟩ := owned_re h hb
    exact k.own b ⟨s, c, h1, h2, h3⟩
  len := Nat.le_trans hn h.len
  rho id hid := by
    have := h.old id (Nat.lt_of_lt_of_le hid hn)
    simp only [reρ, this]
    exact k.rho id hid

/-- A state told with less. -/
def WkS (n0 : Nat) (e : Env) (σ : AHeap) (e1 : Env) (σ1 : AHeap) : Prop :=
  ∃ src : Nat → Option Nat, WkH n0 σ src σ1 ∧ ∀ t, WkV σ src (gone src σ1) σ1.length (e t) (e1 t)

theorem WkS.here {N : Nat} {σ0 : AHeap} {ρ0 : Nat → Place} {w0 : World} {e e1 : Env} {a : Act} (h : Here N σ0 ρ0 w0 G e σ ρ a w) (k : WkS n0 e σ e1 σ1) (hn : σ0.length ≤ n0) : ∃ ρ1, Here N σ0 ρ0 w0 G e1 σ1 ρ1 a w := by
  obtain ⟨src, h1, h2⟩ := k
  exact ⟨reρ src ρ, wkh_wrel h.rel h1, ⟨h.env.1, h.env.2.1, fun t ht => wkv_ok h.rel h1 (h2 t) (h.env.2.2 t ht)⟩, wkh_keeps h.keeps h1 hn⟩

end

/-- What a call answers told with less. -/
theorem Tri.weaken {P : Program} {f : FuncId} {args : List AV} {σ : AHeap} {Q Q' : AV → AHeap → Prop} (h : Tri P f args σ Q)
    (hq : ∀ r σ', Q r σ' → ∃ r1 σ1, WkS σ.length (fun _ => r) σ' (fun _ => r1) σ1 ∧ Q' r1 σ1) : Tri P f args σ Q' := by
  refine ⟨h.1, fun ρ w G args' hw ha => (h.2 ρ w G args' hw ha).mono ?_⟩
  rintro e w' ⟨v, ρ', r, σ', h1, h2, k1, k2, k3⟩
  obtain ⟨r1, σ1, ⟨src, g1, g2⟩, g3⟩ := hq r σ' h2
  exact ⟨v, reρ src ρ', r1, σ1, h1, g3, wkh_keeps k1 g1 (Nat.le_refl _), wkh_wrel k2 g1, wkv_ok k2 g1 (g2 0) k3⟩

/-- What a call is handed told with less. -/
theorem Tri.pre {P : Program} {f : FuncId} {args args1 : List AV} {σ σ1 : AHeap} {Q : AV → AHeap → Prop} {src : Nat → Option Nat} (hσ : WkH σ.length σ src σ1) (hl : args.length = args1.length)
    (ha : ∀ (i : Nat) x y, args[i]? = some x → args1[i]? = some y → WkV σ src (gone src σ1) σ1.length x y) (h : Tri P f args1 σ1 Q) : Tri P f args σ Q := by
  refine ⟨h.1, fun ρ w G args' hw hargs => ?_⟩
  have hw1 := wkh_wrel hw hσ
  have hk := wkh_keeps (Keeps.refl σ ρ w) hσ (Nat.le_refl _)
  refine (h.2 (reρ src ρ) w G args' hw1 ⟨by rw [← hl]; exact hargs.1, fun i y v hy hv => ?_⟩).mono ?_
  · have hi := idx_lt hy
    rw [← hl] at hi
    exact wkv_ok hw hσ (ha i args[i] y (List.getElem?_eq_getElem hi) hy) (hargs.2 i _ v (List.getElem?_eq_getElem hi) hv)
  · rintro e w' ⟨v, ρ', r, σ', h1, h2, k1, k2, k3⟩
    exact ⟨v, ρ', r, σ', h1, h2, hk.trans k1, k2, k3⟩

end Go.Gz
