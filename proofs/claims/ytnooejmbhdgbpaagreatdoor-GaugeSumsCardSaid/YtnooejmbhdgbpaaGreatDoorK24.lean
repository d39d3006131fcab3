/- Telling less, in a form that rewriting can check: which blocks are kept, in which order. -/
import Derived.Test.YtnooejmbhdgbpaaGreatDoorK23
set_option linter.unusedVariables false
set_option linter.unusedSimpArgs false
namespace Go.Gz
/-- A value that names no place. -/
def AV.flat : AV → Bool
  | .bool _ | .int _ _ | .str _ | .nilptr | .nilslice | .nilfunc | .nilif | .someif | .nilmap | .unk => true
  | _ => false
def flatL (l : List AV) : Prop := ∀ x ∈ l, x.flat = true
def flatLL (l : List (List AV)) : Prop := ∀ r ∈ l, flatL r
abbrev Keep := List (Option Nat)
def Keep.src (keep : Keep) (id : Nat) : Option Nat := (keep[id]?).join
mutual
def wv (σ : AHeap) (keep : Keep) : AV → AV → Prop
  | _, .unk => True
  | .bool a, .bool b => a = b
  | .int k a, .int l b => k = l ∧ a = b
  | .str a, .str b => a = b
  | .nilptr, .nilptr => True
  | .nilslice, .nilslice => True
  | .nilfunc, .nilfunc => True
  | .nilif, .nilif => True
  | .someif, .someif => True
  | .nilmap, .nilmap => True
  | .map s, .map id => keep[id]? = some (some s)
  | .brow s len t, .brow id len' t' => keep[id]? = some (some s) ∧ len = len' ∧ t = t'
  | .bptr s t, .bptr id t' => keep[id]? = some (some s) ∧ t = t'
  | .ptr s off, .ptr id off' => keep[id]? = some (some s) ∧ off = off'
  | .slice s off len cap esz, .slice id off' len' cap' esz' => keep[id]? = some (some s) ∧ off = off' ∧ len = len' ∧ (cap' = cap ∨ cap' = none) ∧ esz = esz'
  | .nilslice, .slice id off len cap _ => keep[id]? = some none ∧ off = 0 ∧ len = 0 ∧ cap = none
  | .slice s off len cap esz, .imm rows full nn => some s ∉ keep ∧ (∃ cells, hget σ s = some cells ∧ sub cells off (len * esz) = some rows.flatten) ∧ rows.length = len ∧ (∀ r ∈ rows, r.length = esz) ∧ (full = true → cap = some len) ∧ (nn = true → 0 < len) ∧ flatLL rows
  | .nilslice, .imm rows full nn => rows = [] ∧ nn = false
  | .agg xs, .agg ys => wvs σ keep xs ys
  | .tuple xs, .tuple ys => wvs σ keep xs ys
  | .imm rows f nn, .imm rows' f' nn' => rows = rows' ∧ f = f' ∧ nn = nn' ∧ flatLL rows
  | .iptr cs, .iptr cs' => cs = cs' ∧ flatL cs
  | .func f cs, .func g ds => f = g ∧ wvs σ keep cs ds
  | _, _ => False
def wvs (σ : AHeap) (keep : Keep) : List AV → List AV → Prop
  | [], [] => True
  | x :: xs, y :: ys => wv σ keep x y ∧ wvs σ keep xs ys
  | _, _ => False
end
theorem flat_wk {σ : AHeap} {src : Nat → Option Nat} {rel : Nat → Prop} {n : Nat} {x : AV} (h : x.flat = true) : WkV σ src rel n x x := by
  cases x <;> simp [AV.flat] at h <;> constructor
theorem flat_at {α : Type} : ∀ {rows : List (List α)} {e i j : Nat} {row : List α} {x : α}, (∀ r ∈ rows, r.length = e) → rows[i]? = some row → row[j]? = some x → rows.flatten[i * e + j]? = some x
  | [], e, i, j, row, x, _, h, _ => by simp at h
  | r :: rs, e, 0, j, row, x, hl, h, hx => by
    simp at h; subst h
    have hj : j < r.length := (List.getElem?_eq_some_iff.1 hx).1
    simp only [List.flatten_cons, Nat.zero_mul, Nat.zero_add]
    rw [List.getElem?_append_left hj]; exact hx
  | r :: rs, e, i + 1, j, row, x, hl, h, hx => by
    have hr : r.length = e := hl r (by simp)
    have := flat_at (rows := rs) (e := e) (i := i) (j := j) (fun r hr => hl r (by simp [hr])) (by simpa using h) hx
    simp only [List.flatten_cons]
    rw [List.getElem?_append_right (by rw [hr, Nat.add_mul]; omega), hr]
    have e1 : (i + 1) * e + j - e = i * e + j := by rw [Nat.add_mul]; omega
    rw [e1]; exact this
section
variable {σ σ1 : AHeap} {keep : Keep}
/-- What is known of the heap that is told with less. -/
structure KeepOk (n0 : Nat) (σ : AHeap) (keep : Keep) (σ1 : AHeap) : Prop where
  len : σ1.length = keep.length
  old : ∀ id, id < n0 → keep[id]? = some (some id)
  n0 : n0 ≤ keep.length
  bound : ∀ s, some s ∈ keep → s < σ.length
  inj : ∀ (i j s : Nat), keep[i]? = some (some s) → keep[j]? = some (some s) → i = j
mutual
theorem wv_ok (hl : σ1.length = keep.length) : ∀ {x y : AV}, wv σ keep x y → WkV σ keep.src (gone keep.src σ1) σ1.length x y
  | x, .unk, _ => .unk x
  | .bool a, .bool b, h => by unfold wv at h; subst h; exact .bool _
  | .int k a, .int l b, h => by unfold wv at h; obtain ⟨rfl, rfl⟩ := h; exact .int _ _
  | .str a, .str b, h => by unfold wv at h; subst h; exact .str _
  | .nilptr, .nilptr, _ => .nilptr
  | .nilslice, .nilslice, _ => .nilslice
  | .nilfunc, .nilfunc, _ => .nilfunc
  | .nilif, .nilif, _ => .nilif
  | .someif, .someif, _ => .someif
  | .nilmap, .nilmap, _ => .nilmap
  | .map s, .map id, h => by
    unfold wv at h
    exact .map _ _ (by simp [Keep.src, h]) (by rw [hl]; exact (List.getElem?_eq_some_iff.1 h).1)
  | .brow s len t, .brow id len' t', h => by
    unfold wv at h; obtain ⟨h1, rfl, rfl⟩ := h
    exact .brow _ _ _ _ (by simp [Keep.src, h1]) (by rw [hl]; exact (List.getElem?_eq_some_iff.1 h1).1)
  | .bptr s t, .bptr id t', h => by
    unfold wv at h; obtain ⟨h1, rfl⟩ := h
    exact .bptr _ _ _ (by simp [Keep.src, h1]) (by rw [hl]; exact (List.getElem?_eq_some_iff.1 h1).1)
  | .ptr s off, .ptr id off', h => by
    unfold wv at h; obtain ⟨h1, rfl⟩ := h
    exact .ptr _ _ _ (by simp [Keep.src, h1]) (by rw [hl]; exact (List.getElem?_eq_some_iff.1 h1).1)
  | .slice s off len cap esz, .slice id off' len' cap' esz', h => by
    unfold wv at h; obtain ⟨h1, rfl, rfl, h2, rfl⟩ := h
    exact .slice _ _ _ _ _ _ _ (by simp [Keep.src, h1]) (by rw [hl]; exact (List.getElem?_eq_some_iff.1 h1).1) h2
  | .nilslice, .slice id off len cap _, h => by
    unfold wv at h; obtain ⟨h1, rfl, rfl, rfl⟩ := h
    exact .void _ _ (by simp [Keep.src, h1]) (by rw [hl]; exact (List.getElem?_eq_some_iff.1 h1).1)
  | .slice s off len cap esz, .imm rows full nn, h => by
    unfold wv at h
    obtain ⟨h1, ⟨cells, h2, h3⟩, h4, h5, h6, h7, h8⟩ := h
    refine .freeze s off len cap esz cells rows full nn (fun i j => ((rows[i]?.getD [])[j]?).getD .unk) ?_ (hget_some h2) h4 (fun i row hi => h5 row (List.mem_of_getElem? hi)) h6 h7 (fun i row j x hi hj => ?_) (fun i row j x hi hj => ?_)
    · intro id c hc hs
      have hs' : (keep[id]?).join = some s := hs
      cases hk : keep[id]? with
      | none => simp [hk] at hs'
      | some o => simp [hk] at hs'; subst hs'; exact h1 (List.mem_of_getElem? hk)
    · have h9 := flat_at h5 hi hj
      have h10 := sub_idx h3 h9
      simp only [hi, Option.getD_some, hj]
      rw [Nat.add_assoc]; exact h10.1
    · simp only [hi, Option.getD_some, hj]
      exact flat_wk (h8 row (List.mem_of_getElem? hi) x (List.mem_of_getElem? hj))
  | .nilslice, .imm rows full nn, h => by unfold wv at h; obtain ⟨rfl, rfl⟩ := h; exact .nilImm _
  | .agg xs, .agg ys, h => by
    unfold wv at h
    obtain ⟨h1, h2⟩ := wvs_ok hl h
    refine .agg xs ys (fun j => xs.getD j .unk) h1 (fun j x hx => ?_) (fun j x hx => ?_)
    all_goals
      have hlt : j < xs.length := by rw [h1]; exact (List.getElem?_eq_some_iff.1 hx).1
    · simp [List.getD, hlt]
    · simp only [List.getD, List.getElem?_eq_getElem hlt, Option.getD_some]
      exact h2 j _ x (List.getElem?_eq_getElem hlt) hx
  | .tuple xs, .tuple ys, h => by
    unfold wv at h
    obtain ⟨h1, h2⟩ := wvs_ok hl h
    refine .tuple xs ys (fun j => xs.getD j .unk) h1 (fun j x hx => ?_) (fun j x hx => ?_)
    all_goals
      have hlt : j < xs.length := by rw [h1]; exact (List.getElem?_eq_some_iff.1 hx).1
    · simp [List.getD, hlt]
    · simp only [List.getD, List.getElem?_eq_getElem hlt, Option.getD_some]
      exact h2 j _ x (List.getElem?_eq_getElem hlt) hx
  | .func f xs, .func g ys, h => by
    unfold wv at h
    obtain ⟨rfl, h⟩ := h
    obtain ⟨h1, h2⟩ := wvs_ok hl h
    refine .func f xs ys (fun j => xs.getD j .unk) h1 (fun j x hx => ?_) (fun j x hx => ?_)
    all_goals
      have hlt : j < xs.length := by rw [h1]; exact (List.getElem?_eq_some_iff.1 hx).1
    · simp [List.getD, hlt]
    · simp only [List.getD, List.getElem?_eq_getElem hlt, Option.getD_some]
      exact h2 j _ x (List.getElem?_eq_getElem hlt) hx
  | .imm rows f nn, .imm rows' f' nn', h => by
    unfold wv at h
    obtain ⟨rfl, rfl, rfl, h4⟩ := h
    refine .imm rows rows f f nn nn (fun i j => ((rows[i]?.getD [])[j]?).getD .unk) rfl id id (fun i row hi => ⟨row, hi, rfl, fun j x hj => by simp [hi, hj]⟩) (fun i row j x hi hj => ?_)
    simp only [hi, Option.getD_some, hj]
    exact flat_wk (h4 row (List.mem_of_getElem? hi) x (List.mem_of_getElem? hj))
  | .iptr cs, .iptr cs', h => by
    unfold wv at h
    obtain ⟨rfl, h4⟩ := h
    refine .iptr cs cs (fun j => (cs[j]?).getD .unk) (fun j x hj => by simp [hj]) (fun j x hj => ?_)
    simp only [hj, Option.getD_some]
    exact flat_wk (h4 x (List.mem_of_getElem? hj))
theorem wvs_ok (hl : σ1.length = keep.length) : ∀ {xs ys : List AV}, wvs σ keep xs ys → xs.length = ys.length ∧ ∀ (i : Nat) x y, xs[i]? = some x → ys[i]? = some y → WkV σ keep.src (gone keep.src σ1) σ1.length x y
  | [], [], _ => ⟨rfl, fun i x y h => by simp at h⟩
  | x :: xs, y :: ys, h => by
    unfold wvs at h
    obtain ⟨h1, h2⟩ := h
    obtain ⟨h3, h4⟩ := wvs_ok hl h2
    refine ⟨by simp [h3], fun i a b ha hb => ?_⟩
    cases i with
    | zero => simp at ha hb; subst ha; subst hb; exact wv_ok hl h1
    | succ i => exact h4 i a b (by simpa using ha) (by simpa using hb)
  | [], _ :: _, h => by unfold wvs at h; exact h.elim
  | _ :: _, [], h => by unfold wvs at h; exact h.elim
end
def blkP (σ : AHeap) (keep : Keep) (k : Option Nat) (b : Option (List AV)) : Prop :=
  match b, k with
  | none, _ => True
  | some c1, some s => ∃ c, hget σ s = some c ∧ wvs σ keep c c1
  | some c1, none => c1 = []
def blksP (σ : AHeap) (keep : Keep) : Keep → AHeap → Prop
  | [], [] => True
  | k :: ks, b :: bs => blkP σ keep k b ∧ blksP σ keep ks bs
  | _, _ => False
theorem blksP_ok : ∀ {ks : Keep} {bs : AHeap}, blksP σ keep ks bs → bs.length = ks.length ∧ ∀ (i : Nat) k b, ks[i]? = some k → bs[i]? = some b → blkP σ keep k b
  | [], [], _ => ⟨rfl, fun i k b h => by simp at h⟩
  | k :: ks, b :: bs, h => by
    unfold blksP at h
    obtain ⟨h3, h4⟩ := blksP_ok h.2
    refine ⟨by simp [h3], fun i k' b' ha hb => ?_⟩
    cases i with
    | zero => simp at ha hb; subst ha; subst hb; exact h.1
    | succ i => exact h4 i _ _ (by simpa using ha) (by simpa using hb)
  | [], _ :: _, h => by unfold blksP at h; exact h.elim
  | _ :: _, [], h => by unfold blksP at h; exact h.elim
/-- The kept ones, by counting. -/
def keepB (n0 len : Nat) (keep : Keep) : Bool :=
  (List.range n0).all (fun i => keep[i]? == some (some i)) && keep.all (fun k => match k with | some s => Nat.blt s len | none => true) &&
    (List.range keep.length).all fun i => (List.range keep.length).all fun j => match keep[i]?, keep[j]? with | some (some a), some (some b) => !(a == b) || i == j | _, _ => true
theorem keepB_ok {n0 : Nat} (h : keepB n0 σ.length keep = true) (hl : σ1.length = keep.length) : KeepOk n0 σ keep σ1 := by
  unfold keepB at h
  simp only [Bool.and_eq_true, List.all_eq_true, List.mem_range, beq_iff_eq] at h
  obtain ⟨⟨h1, h2⟩, h3⟩ := h
  refine ⟨hl, h1, ?_, fun s hs => ?_, fun i j s hi hj => ?_⟩
  · refine Nat.le_of_not_lt fun hlt => ?_
    have := h1 keep.length hlt
    rw [List.getElem?_eq_none (Nat.le_refl _)] at this
    cases this
  · have := h2 (some s) hs
    simpa [Nat.blt_eq] using this
  · have hi' := (List.getElem?_eq_some_iff.1 hi).1
    have hj' := (List.getElem?_eq_some_iff.1 hj).1
    have := h3 i hi' j hj'
    rw [hi, hj] at this
    simpa using this
theorem wkh_of {n0 : Nat} (hk : keepB n0 σ.length keep = true) (hb : blksP σ keep keep σ1) : WkH n0 σ keep.src σ1 := by
  obtain ⟨hl, h2⟩ := blksP_ok hb
  obtain ⟨_, k2, k3, k4, k5⟩ := keepB_ok (σ1 := σ1) hk hl
  have hsrc : ∀ id s, keep.src id = some s → keep[id]? = some (some s) := by
    intro id s h
    unfold Keep.src at h
    cases hh : keep[id]? with
    | none => simp [hh] at h
    | some o => simp [hh] at h; rw [h]
  refine ⟨fun id hid => by simp [Keep.src, k2 id hid], by rw [hl]; exact k3, fun id s _ hs => k4 s (List.mem_of_getElem? (hsrc id s hs)), fun id c1 s h1 hs => ?_, fun id c1 h1 hs => ?_, fun id id' c c' s h1 h1' hs hs' => k5 id id' s (hsrc id s hs) (hsrc id' s hs')⟩
  · have := h2 id (some s) (some c1) (hsrc id s hs) h1
    unfold blkP at this
    obtain ⟨c, hc, hw⟩ := this
    obtain ⟨w1, w2⟩ := wvs_ok hl hw
    refine ⟨c, hget_some hc, w1.symm, fun i x1 hx1 => ?_⟩
    have hlt : i < c.length := by rw [w1]; exact (List.getElem?_eq_some_iff.1 hx1).1
    exact ⟨c[i], List.getElem?_eq_getElem hlt, w2 i _ x1 (List.getElem?_eq_getElem hlt) hx1⟩
  · have hlt : id < keep.length := by rw [← hl]; exact (List.getElem?_eq_some_iff.1 h1).1
    have hk' : keep[id]? = some none := by
      unfold Keep.src at hs
      cases hh : keep[id]? with
      | none => rw [List.getElem?_eq_none_iff] at hh; omega
      | some o => simp [hh] at hs; rw [hs]
    have := h2 id none (some c1) hk' h1
    exact this
/-- An environment of some slots; of the others nothing is known. -/
def envL : List (Nat × AV) → Env
  | [] => fun _ => .unk
  | (t, v) :: l => fun k => if k = t then v else envL l k
def wvE (σ : AHeap) (keep : Keep) (e : Env) : List (Nat × AV) → Prop
  | [] => True
  | (t, v) :: l => wv σ keep (e t) v ∧ wvE σ keep e l
theorem wvE_ok {e : Env} : ∀ {l : List (Nat × AV)}, wvE σ keep e l → ∀ t, wv σ keep (e t) (envL l t)
  | [], _, t => by show wv σ keep (e t) .unk; cases e t <;> unfold wv <;> trivial
  | (s, v) :: l, h, t => by
    unfold wvE at h
    show wv σ keep (e t) (if t = s then v else envL l t)
    split
    · rename_i hh; subst hh; exact h.1
    · exact wvE_ok h.2 t
/-- Slots and blocks told with less. -/
theorem wkS_of {n0 : Nat} {e : Env} {l : List (Nat × AV)} (keep : Keep) (hk : keepB n0 σ.length keep = true) (hb : blksP σ keep keep σ1) (he : wvE σ keep e l) : WkS n0 e σ (envL l) σ1 :=
  ⟨keep.src, wkh_of hk hb, fun t => wv_ok (blksP_ok hb).1 (wvE_ok he t)⟩
theorem Tri.less {P : Program} {f : FuncId} {args : List AV} {Q Q' : AV → AHeap → Prop} (h : Tri P f args σ Q)
    (hq : ∀ r σ', Q r σ' → ∃ keep r1 σ1, keepB σ.length σ'.length keep = true ∧ blksP σ' keep keep σ1 ∧ wv σ' keep r r1 ∧ Q' r1 σ1) : Tri P f args σ Q' :=
  h.weaken fun r σ' hr => by
    obtain ⟨keep, r1, σ1, h1, h2, h3, h4⟩ := hq r σ' hr
    exact ⟨r1, σ1, ⟨keep.src, wkh_of h1 h2, fun _ => wv_ok (blksP_ok h2).1 h3⟩, h4⟩
theorem wvs_flat : ∀ {xs : List AV}, flatL xs → wvs σ keep xs xs
  | [], _ => by unfold wvs; trivial
  | x :: xs, h => by
    unfold wvs
    refine ⟨?_, wvs_flat fun y hy => h y (by simp [hy])⟩
    have := h x (by simp)
    cases x <;> simp [AV.flat] at this <;> unfold wv <;> simp
end
end Go.Gz
