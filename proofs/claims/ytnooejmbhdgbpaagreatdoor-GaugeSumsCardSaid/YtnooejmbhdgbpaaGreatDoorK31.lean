/- Values that hold nothing that may be written, however deep; freezing what a call made; calls of such values. -/
import Derived.Test.YtnooejmbhdgbpaaGreatDoorK27
set_option linter.unusedVariables false
set_option linter.unusedSimpArgs false
namespace Go.Gz
mutual
/-- A value that names no place that may be written, however deep. -/
def AV.pure : AV → Bool
  | .bool _ | .int _ _ | .str _ | .nilptr | .nilslice | .nilfunc | .nilif | .someif | .nilmap => true
  | .imm rows _ _ => pureLL rows
  | .iptr cs => pureL cs
  | .agg cs => pureL cs
  | .tuple cs => pureL cs
  | .func _ cs => pureL cs
  | .ptr _ _ | .slice _ _ _ _ _ | .brow _ _ _ | .bptr _ _ | .map _ | .unk => false
def pureL : List AV → Bool
  | [] => true
  | x :: xs => x.pure && pureL xs
def pureLL : List (List AV) → Bool
  | [] => true
  | r :: rs => pureL r && pureLL rs
end
theorem pureL_all : ∀ {l : List AV}, pureL l = true → ∀ x ∈ l, x.pure = true
  | x :: xs, h, y, hy => by
    simp only [pureL, Bool.and_eq_true] at h
    rcases List.mem_cons.1 hy with rfl | hy
    · exact h.1
    · exact pureL_all h.2 y hy
theorem pureL_of : ∀ {l : List AV}, (∀ x ∈ l, x.pure = true) → pureL l = true
  | [], _ => rfl
  | x :: xs, h => by
    simp only [pureL, Bool.and_eq_true]
    exact ⟨h x (by simp), pureL_of fun y hy => h y (by simp [hy])⟩
theorem pureLL_all : ∀ {l : List (List AV)}, pureLL l = true → ∀ r ∈ l, pureL r = true
  | r :: rs, h, y, hy => by
    simp only [pureLL, Bool.and_eq_true] at h
    rcases List.mem_cons.1 hy with rfl | hy
    · exact h.1
    · exact pureLL_all h.2 y hy
theorem pureLL_of : ∀ {l : List (List AV)}, (∀ r ∈ l, pureL r = true) → pureLL l = true
  | [], _ => rfl
  | x :: xs, h => by
    simp only [pureLL, Bool.and_eq_true]
    exact ⟨h x (by simp), pureLL_of fun y hy => h y (by simp [hy])⟩
theorem flat_pure {x : AV} (h : x.flat = true) (hu : x ≠ .unk) : x.pure = true := by
  cases x <;> simp [AV.flat] at h <;> first | rfl | exact absurd rfl hu
theorem pure_rel {C C' : Ctx} (hm : ∀ b, b < C.w.heap.size → ¬ C.O b → ¬ C'.O b ∧ C'.w.heap[b]? = C.w.heap[b]?) {x : AV} {v : Value} (h : VRel C x v) : x.pure = true → VRel C' x v := by
  induction h with
  | bool b => intro _; exact .bool b
  | int k n => intro _; exact .int k n
  | str s => intro _; exact .str s
  | nilptr => intro _; exact .nilptr
  | ptr id off h1 h2 => intro h; simp [AV.pure] at h
  | iptr cells b o f hc hr ih =>
    intro hp
    have hp : pureL cells = true := by simpa [AV.pure] using hp
    refine .iptr cells b o f (fun j x hx => ?_) (fun j x hx => ih j x hx (pureL_all hp x (List.mem_of_getElem? hx)))
    obtain ⟨h1, h2⟩ := hc j x hx
    obtain ⟨h3, h4⟩ := hm b (cell?_lt h1) h2
    exact ⟨by rw [cell?_block (w' := C'.w) (w := C.w) h4]; exact h1, h3⟩
  | nilslice => intro _; exact .nilslice
  | slice id off len cap esz b o c h1 h2 h3 h4 h6 => intro h; simp [AV.pure] at h
  | sliceNil id off cap esz a h1 h2 h3 h4 => intro h; simp [AV.pure] at h
  | imm rows full nn b o c esz f h1 h2 h3 hc hr ih =>
    intro hp
    have hp : pureLL rows = true := by simpa [AV.pure] using hp
    refine .imm rows full nn b o c esz f h1 h2 h3 (fun i row j x hx hy => ?_) (fun i row j x hx hy => ih i row j x hx hy (pureL_all (pureLL_all hp row (List.mem_of_getElem? hx)) x (List.mem_of_getElem? hy)))
    obtain ⟨k1, k2⟩ := hc i row j x hx hy
    obtain ⟨k3, k4⟩ := hm b (cell?_lt k1) k2
    exact ⟨by rw [cell?_block (w' := C'.w) (w := C.w) k4]; exact k1, k3⟩
  | immNil full => intro _; exact .immNil full
  | immVoid full nn a => intro _; exact .immVoid full nn a
  | func f caps caps' h1 h2 ih =>
    intro hp
    have hp : pureL caps = true := by simpa [AV.pure] using hp
    exact .func f caps caps' h1 (fun i x v hx hv => ih i x v hx hv (pureL_all hp x (List.mem_of_getElem? hx)))
  | nilfunc => intro _; exact .nilfunc
  | nilif => intro _; exact .nilif
  | someif t v => intro _; exact .someif t v
  | brow => intro h; simp [AV.pure] at h
  | bptr => intro h; simp [AV.pure] at h
  | map => intro h; simp [AV.pure] at h
  | nilmap => intro _; exact .nilmap
  | agg cs cs' h1 h2 ih =>
    intro hp
    have hp : pureL cs = true := by simpa [AV.pure] using hp
    exact .agg cs cs' h1 (fun i x v hx hv => ih i x v hx hv (pureL_all hp x (List.mem_of_getElem? hx)))
  | tuple cs cs' h1 h2 ih =>
    intro hp
    have hp : pureL cs = true := by simpa [AV.pure] using hp
    exact .tuple cs cs' h1 (fun i x v hx hv => ih i x v hx hv (pureL_all hp x (List.mem_of_getElem? hx)))
  | unk v => intro h; simp [AV.pure] at h
/-- A call that is handed, and answers, nothing that may be written: it goes in any heap, and leaves it alone. -/
theorem Tri.pureD {P : Program} {f : FuncId} {args : List AV} {Q : AV → Prop} (ha : pureL args = true) (h : Tri P f args [] fun r _ => r.pure = true ∧ Q r) (σ : AHeap) : Tri P f args σ fun r σ' => Q r ∧ σ' = σ := by
  refine ⟨h.1, fun ρ w G args' hw hargs => ?_⟩
  have hw0 : WRel [] ρ w (fun b => owned σ ρ b ∨ G b) := ⟨fun id c h => by simp at h, fun id c h => by simp at h, fun id id' c c' h => by simp at h, fun id c h => by simp at h, fun b hb => hb.elim (owned_lt hw) (hw.gsz b), hw.glob.framed⟩
  have hm1 : ∀ b, b < (ctx σ ρ w G).w.heap.size → ¬ (ctx σ ρ w G).O b → ¬ (ctx [] ρ w (fun b => owned σ ρ b ∨ G b)).O b ∧ (ctx [] ρ w (fun b => owned σ ρ b ∨ G b)).w.heap[b]? = (ctx σ ρ w G).w.heap[b]? := by
    intro b _ hb
    refine ⟨?_, rfl⟩
    rintro (⟨id, c, h, _⟩ | h)
    · simp at h
    · exact hb h
  refine (h.2 ρ w _ args' hw0 ⟨hargs.1, fun i x v hx hv => pure_rel hm1 (hargs.2 i x v hx hv) (pureL_all ha x (List.mem_of_getElem? hx))⟩).mono ?_
  rintro e w' ⟨v, ρ', r, σ', h1, ⟨hr, hq⟩, k, k2, k3⟩
  have hk : Keeps σ ρ w σ ρ w' := ⟨k.os, k.tape, k.output, k.size, fun b hb _ => k.frame b hb (by rintro ⟨id, c, h, _⟩; simp at h), fun b hb => .inl hb, Nat.le_refl _, fun _ _ => rfl⟩
  refine ⟨v, ρ, r, σ, h1, ⟨hq, rfl⟩, hk, ⟨fun id cells hi hn => ?_, fun id cells hi hn => (hw.nil id cells hi hn).of (fun x v hx => hx.keeps hw hk) (fun he => k.frame _ (owned_lt hw ⟨id, cells, hi, .inr he, rfl⟩) (by rintro ⟨id, c, h, _⟩; simp at h)), hw.excl, hw.sep, fun b hb => Nat.lt_of_lt_of_le (hw.gsz b hb) k.size, hw.glob.keeps hk⟩, pure_rel (C := ctx σ' ρ' w' (fun b => owned σ ρ b ∨ G b)) (C' := ctx σ ρ w' G) (fun b _ hb => ⟨fun h => hb (Or.inr h), rfl⟩) k3 hr⟩
  exact (hw.blk id cells hi hn).of (fun x v hx => hx.keeps hw hk) (k.frame _ (owned_lt hw ⟨id, cells, hi, .inl hn, rfl⟩) (by rintro ⟨id, c, h, _⟩; simp at h))
/-- A value, all of whose memory nobody writes any more. -/
inductive Frz (σ : AHeap) : AV → AV → Prop
  | pure {x : AV} : x.pure = true → Frz σ x x
  | slice {s off len : Nat} {cap : Option Nat} {esz : Nat} {cells ys : List AV} {rows : List (List AV)} : hget σ s = some cells → sub cells off (len * esz) = some ys → rows.length = len → (∀ r ∈ rows, r.length = esz) →
      (∀ (i : Nat) (y z : AV), ys[i]? = some y → rows.flatten[i]? = some z → Frz σ y z) → Frz σ (.slice s off len cap esz) (.imm rows false false)
  | nil : Frz σ .nilslice (.imm [] false false)
  | ptr {s off : Nat} {cells ys zs : List AV} : hget σ s = some cells → sub cells off zs.length = some ys → (∀ (i : Nat) (y z : AV), ys[i]? = some y → zs[i]? = some z → Frz σ y z) → Frz σ (.ptr s off) (.iptr zs)
  | agg {xs ys : List AV} : xs.length = ys.length → (∀ (i : Nat) (x y : AV), xs[i]? = some x → ys[i]? = some y → Frz σ x y) → Frz σ (.agg xs) (.agg ys)
  | tuple {xs ys : List AV} : xs.length = ys.length → (∀ (i : Nat) (x y : AV), xs[i]? = some x → ys[i]? = some y → Frz σ x y) → Frz σ (.tuple xs) (.tuple ys)
  | imm {rs qs : List (List AV)} {f nn : Bool} {g : Nat → Nat → AV} : rs.length = qs.length → (∀ (i : Nat) (r q : List AV), rs[i]? = some r → qs[i]? = some q → r.length = q.length ∧ ∀ (j : Nat) (y : AV), q[j]? = some y → r[j]? = some (g i j)) →
      (∀ (i : Nat) (q : List AV) (j : Nat) (y : AV), qs[i]? = some q → q[j]? = some y → Frz σ (g i j) y) → Frz σ (.imm rs f nn) (.imm qs f nn)
mutual
theorem pure_wk {σ : AHeap} {src : Nat → Option Nat} {rel : Nat → Prop} {n : Nat} : ∀ {x : AV}, x.pure = true → WkV σ src rel n x x
  | .bool b, _ => .bool b
  | .int k i, _ => .int k i
  | .str s, _ => .str s
  | .nilptr, _ => .nilptr
  | .nilslice, _ => .nilslice
  | .nilfunc, _ => .nilfunc
  | .nilif, _ => .nilif
  | .someif, _ => .someif
  | .nilmap, _ => .nilmap
  | .imm rows full nn, h => by
    have h : pureLL rows = true := by simpa [AV.pure] using h
    refine .imm rows rows full full nn nn (fun i j => ((rows[i]?.getD [])[j]?).getD .unk) rfl id id (fun i row hi => ⟨row, hi, rfl, fun j x hj => by simp [hi, hj]⟩) (fun i row j x hi hj => ?_)
    simp only [hi, Option.getD_some, hj]
    exact pure_wkLL h row (List.mem_of_getElem? hi) x (List.mem_of_getElem? hj)
  | .iptr cs, h => by
    have h : pureL cs = true := by simpa [AV.pure] using h
    refine .iptr cs cs (fun j => (cs[j]?).getD .unk) (fun j x hj => by simp [hj]) (fun j x hj => ?_)
    simp only [hj, Option.getD_some]
    exact pure_wkL h x (List.mem_of_getElem? hj)
  | .agg cs, h => by
    have h : pureL cs = true := by simpa [AV.pure] using h
    refine .agg cs cs (fun j => (cs[j]?).getD .unk) rfl (fun j x hj => by simp [hj]) (fun j x hj => ?_)
    simp only [hj, Option.getD_some]
    exact pure_wkL h x (List.mem_of_getElem? hj)
  | .tuple cs, h => by
    have h : pureL cs = true := by simpa [AV.pure] using h
    refine .tuple cs cs (fun j => (cs[j]?).getD .unk) rfl (fun j x hj => by simp [hj]) (fun j x hj => ?_)
    simp only [hj, Option.getD_some]
    exact pure_wkL h x (List.mem_of_getElem? hj)
  | .func f cs, h => by
    have h : pureL cs = true := by simpa [AV.pure] using h
    refine .func f cs cs (fun j => (cs[j]?).getD .unk) rfl (fun j x hj => by simp [hj]) (fun j x hj => ?_)
    simp only [hj, Option.getD_some]
    exact pure_wkL h x (List.mem_of_getElem? hj)
  | .ptr _ _, h => by simp [AV.pure] at h
  | .slice _ _ _ _ _, h => by simp [AV.pure] at h
  | .unk, h => by simp [AV.pure] at h
theorem pure_wkL {σ : AHeap} {src : Nat → Option Nat} {rel : Nat → Prop} {n : Nat} : ∀ {l : List AV}, pureL l = true → ∀ x ∈ l, WkV σ src rel n x x
  | [], _, x, hx => by simp at hx
  | y :: ys, h, x, hx => by
    simp only [pureL, Bool.and_eq_true] at h
    by_cases he : x ∈ ys
    · exact pure_wkL h.2 x he
    · have : x = y := (List.mem_cons.1 hx).resolve_right he
      rw [this]; exact pure_wk h.1
theorem pure_wkLL {σ : AHeap} {src : Nat → Option Nat} {rel : Nat → Prop} {n : Nat} : ∀ {l : List (List AV)}, pureLL l = true → ∀ r ∈ l, ∀ x ∈ r, WkV σ src rel n x x
  | [], _, r, hr => by simp at hr
  | q :: qs, h, r, hr => by
    simp only [pureLL, Bool.and_eq_true] at h
    by_cases he : r ∈ qs
    · exact pure_wkLL h.2 r he
    · have : r = q := (List.mem_cons.1 hr).resolve_right he
      rw [this]; exact pure_wkL h.1
end
theorem frz_wk {σ : AHeap} {src : Nat → Option Nat} {n : Nat} {x y : AV} (h : Frz σ x y) : WkV σ src (fun _ => True) n x y := by
  induction h with
  | pure hp => exact pure_wk hp
  | @slice s off len cap esz cells ys rows h1 h2 h3 h4 h5 ih =>
    have hk : ∀ (i : Nat) (row : List AV) (j : Nat) (x : AV), rows[i]? = some row → row[j]? = some x → ∃ y, cells[off + (i * esz + j)]? = some y ∧ ys[i * esz + j]? = some y ∧ rows.flatten[i * esz + j]? = some x := by
      intro i row j x hi hj
      have f1 := flat_at h4 hi hj
      have hlen : ys.length = len * esz := by
        unfold sub at h2
        split at h2
        · cases h2; rename_i hh; simp; omega
        · cases h2
      have hlt : i * esz + j < ys.length := by
        have e1 : rows.flatten.length = len * esz := by
          rw [← h3]
          clear h2 h5 ih hi hj f1 hlen h3
          induction rows with
          | nil => simp
          | cons r rs ih => simp only [List.flatten_cons, List.length_append, List.length_cons, ih (fun r hr => h4 r (by simp [hr])), h4 r (by simp), Nat.add_mul]; omega
        have := idx_lt f1
        omega
      have h7 := sub_idx h2 (List.getElem?_eq_getElem hlt)
      exact ⟨ys[i * esz + j], h7.1, List.getElem?_eq_getElem hlt, f1⟩
    refine .freeze s off len cap esz cells rows false false (fun i j => (cells[off + (i * esz + j)]?).getD .unk) trivial (hget_some h1) h3 (fun i row hi => h4 row (List.mem_of_getElem? hi)) (by simp) (by simp) (fun i row j x hi hj => ?_) (fun i row j x hi hj => ?_)
    · obtain ⟨y, q1, _, _⟩ := hk i row j x hi hj
      rw [Nat.add_assoc, q1]; rfl
    · obtain ⟨y, q1, q2, q3⟩ := hk i row j x hi hj
      simp only [q1, Option.getD_some]
      exact ih _ y x q2 q3
  | nil => exact .nilImm false
  | @ptr s off cells ys zs h1 h2 h3 ih =>
    have hlen : ys.length = zs.length := by
      unfold sub at h2
      split at h2
      · cases h2; rename_i hh; simp; omega
      · cases h2
    refine .freezePtr s off cells zs (fun j => (cells[off + j]?).getD .unk) trivial (hget_some h1) (fun j x hx => ?_) (fun j x hx => ?_)
    all_goals
      have hlt : j < ys.length := by rw [hlen]; exact idx_lt hx
      have q1 := (sub_idx h2 (List.getElem?_eq_getElem hlt)).1
    · rw [q1]; rfl
    · simp only [q1, Option.getD_some]
      exact ih j _ x (List.getElem?_eq_getElem hlt) hx
  | @agg xs ys h1 h2 ih =>
    refine .agg xs ys (fun j => xs.getD j .unk) h1 (fun j x hx => ?_) (fun j x hx => ?_)
    all_goals
      have hlt : j < xs.length := by rw [h1]; exact idx_lt hx
    · simp [List.getD, hlt]
    · simp only [List.getD, List.getElem?_eq_getElem hlt, Option.getD_some]
      exact ih j _ x (List.getElem?_eq_getElem hlt) hx
  | @tuple xs ys h1 h2 ih =>
    refine .tuple xs ys (fun j => xs.getD j .unk) h1 (fun j x hx => ?_) (fun j x hx => ?_)
    all_goals
      have hlt : j < xs.length := by rw [h1]; exact idx_lt hx
    · simp [List.getD, hlt]
    · simp only [List.getD, List.getElem?_eq_getElem hlt, Option.getD_some]
      exact ih j _ x (List.getElem?_eq_getElem hlt) hx
  | @imm rs qs f nn g h1 h2 h3 ih =>
    refine .imm rs qs f f nn nn g h1 id id (fun i q hq => ?_) (fun i q j x hq hx => ih i q j x hq hx)
    have hlt : i < rs.length := by rw [h1]; exact idx_lt hq
    obtain ⟨e1, e2⟩ := h2 i rs[i] q (List.getElem?_eq_getElem hlt) hq
    exact ⟨rs[i], List.getElem?_eq_getElem hlt, e1, e2⟩
theorem wk_gone {σ : AHeap} {src : Nat → Option Nat} {rel rel' : Nat → Prop} {n : Nat} {x y : AV} (hr : ∀ s, rel s → rel' s) (h : WkV σ src rel n x y) : WkV σ src rel' n x y := by
  induction h with
  | unk x => exact .unk x
  | bool b => exact .bool b
  | int k i => exact .int k i
  | str s => exact .str s
  | nilptr => exact .nilptr
  | nilslice => exact .nilslice
  | nilfunc => exact .nilfunc
  | nilif => exact .nilif
  | someif => exact .someif
  | brow s id len t h1 h2 => exact .brow s id len t h1 h2
  | bptr s id t h1 h2 => exact .bptr s id t h1 h2
  | map s id h1 h2 => exact .map s id h1 h2
  | nilmap => exact .nilmap
  | ptr s id off h1 h2 => exact .ptr s id off h1 h2
  | slice s id off len cap cap' esz h1 h2 h3 => exact .slice s id off len cap cap' esz h1 h2 h3
  | void id esz h1 h2 => exact .void id esz h1 h2
  | freeze s off len cap esz cells rows full nn g h1 h2 h3 h4 h5 h6 h7 h8 ih => exact .freeze s off len cap esz cells rows full nn g (hr _ h1) h2 h3 h4 h5 h6 h7 ih
  | freezePtr s off cells cells' g h1 h2 h3 h4 ih => exact .freezePtr s off cells cells' g (hr _ h1) h2 h3 ih
  | nilImm full => exact .nilImm full
  | imm rows rows' full full' nn nn' g h1 h2 h3 h4 h5 ih => exact .imm rows rows' full full' nn nn' g h1 h2 h3 h4 ih
  | iptr cells cells' g h1 h2 ih => exact .iptr cells cells' g h1 ih
  | agg cs cs' g h1 h2 h3 ih => exact .agg cs cs' g h1 h2 ih
  | tuple cs cs' g h1 h2 h3 ih => exact .tuple cs cs' g h1 h2 ih
  | func f cs cs' g h1 h2 h3 ih => exact .func f cs cs' g h1 h2 ih
/-- What a call made in an empty heap is frozen. -/
theorem Tri.frozen {P : Program} {f : FuncId} {args : List AV} {Q : AV → AHeap → Prop} {Q' : AV → Prop} (h : Tri P f args [] Q) (hq : ∀ r σ, Q r σ → ∃ r1, Frz σ r r1 ∧ Q' r1) : Tri P f args [] fun r _ => Q' r :=
  h.weaken fun r σ hr => by
    obtain ⟨r1, h1, h2⟩ := hq r σ hr
    have hσ : WkH 0 σ (Keep.src []) [] := wkh_of (keep := []) (n0 := 0) rfl (by unfold blksP; trivial)
    refine ⟨r1, [], ⟨Keep.src [], hσ, fun _ => ?_⟩, h2⟩
    exact wk_gone (fun s _ id c hc => by simp at hc) (frz_wk h1)
/-- An argument that is handed over: it holds nothing that may be written; or it is rows of such in block d, which is let go; or nil. -/
def Given (σ : AHeap) (d : Nat) (x y : AV) : Prop :=
  (x = y ∧ x.pure = true) ∨ (x = .nilslice ∧ y = .imm [] false false) ∨
    ∃ off len cap esz cells rows, x = .slice d off len cap esz ∧ y = .imm rows false false ∧ hget σ d = some cells ∧ sub cells off (len * esz) = some rows.flatten ∧ rows.length = len ∧ (∀ r ∈ rows, r.length = esz) ∧ pureLL rows = true
theorem given_pure {σ : AHeap} {d : Nat} {x y : AV} (h : Given σ d x y) : y.pure = true := by
  rcases h with ⟨rfl, h⟩ | ⟨_, rfl⟩ | ⟨_, _, _, _, _, rows, _, rfl, _, _, _, _, h⟩
  · exact h
  · rfl
  · simpa [AV.pure] using h
theorem given_rel {σ : AHeap} {ρ : Nat → Place} {w : World} {G : Nat → Prop} (hw : WRel σ ρ w G) {d : Nat} {x y : AV} {v : Value} (h : Given σ d x y) (hv : VRel (ctx σ ρ w G) x v) : VRel (ctx (hkill σ d) ρ w G) y v := by
  have hno : ∀ b, ¬ (ctx σ ρ w G).O b → ¬ (ctx (hkill σ d) ρ w G).O b := by
    intro b hb ho
    rcases ho with ⟨id, c, h1, h2, h3⟩ | ho
    · obtain ⟨_, k⟩ := kill_idx h1
      exact hb (.inl ⟨id, c, k, h2, h3⟩)
    · exact hb (.inr ho)
  rcases h with ⟨rfl, hp⟩ | ⟨rfl, rfl⟩ | ⟨off, len, cap, esz, cells, rows, rfl, rfl, h1, h2, h3, h4, h5⟩
  · exact pure_rel (fun b _ hb => ⟨hno b hb, rfl⟩) hv hp
  · cases hv; exact .immNil false
  · have hs := hget_some h1
    cases hv with
    | slice _ _ _ _ _ b o c k1 k2 k3 k4 k5 =>
      have hnd : ¬ (ctx (hkill σ d) ρ w G).O (ρ d).blk := by
        rintro (⟨id, c', g1, g2, g3⟩ | ho)
        · obtain ⟨g4, g5⟩ := kill_idx g1
          exact g4 (hw.excl id d c' cells g5 hs g2 (.inl k2) g3)
        · exact hw.sep d cells hs (.inl k2) ho
      subst h3
      have key : ∀ (i : Nat) (row : List AV) (j : Nat) (z : AV), rows[i]? = some row → row[j]? = some z → ∃ u, w.cell? ⟨b, o + i * esz + j, none⟩ = some u ∧ VRel (ctx σ ρ w G) z u ∧ b = (ρ d).blk := by
        intro i row j z hi hj
        obtain ⟨q1, q2, q3⟩ := k5 (by have := idx_lt hi; omega)
        have f1 := flat_at h4 hi hj
        have f2 := sub_idx h2 f1
        obtain ⟨u, u1, u2⟩ := blk_cell hw hs k2 f2.1
        refine ⟨u, ?_, u2, q1⟩
        have e1 : (ρ d).off + off + i * esz + j = (ρ d).off + (off + (i * esz + j)) := by omega
        rw [q1, q2]
        simp only [ctx]
        rw [e1]
        exact u1
      refine .imm rows false false b o c esz (fun i j => (w.cell? ⟨b, o + i * esz + j, none⟩).getD undef) k3 (by simp) (fun i row hi => h4 row (List.mem_of_getElem? hi)) (fun i row j z hi hj => ?_) (fun i row j z hi hj => ?_)
      · obtain ⟨u, u1, u2, u3⟩ := key i row j z hi hj
        exact ⟨by simp only [ctx]; rw [u1]; rfl, by rw [u3]; exact hnd⟩
      · obtain ⟨u, u1, u2, u3⟩ := key i row j z hi hj
        simp only [u1, Option.getD_some]
        exact pure_rel (fun b _ hb => ⟨hno b hb, rfl⟩) u2 (pureL_all (pureLL_all h5 row (List.mem_of_getElem? hi)) z (List.mem_of_getElem? hj))
    | sliceNil _ _ _ _ a k1 k2 k3 k4 =>
      have hr0 : rows = [] := List.length_eq_zero_iff.1 h3
      subst hr0
      cases a with
      | none => exact .immNil false
      | some ad => exact .immVoid false false ad
/-- A call that is handed rows of a block that is let go, and answers nothing that may be written. -/
theorem Tri.give {P : Program} {f : FuncId} {args args1 : List AV} {σ : AHeap} (d : Nat) {Q : AV → Prop} (hl : args.length = args1.length) (hg : ∀ (i : Nat) (x y : AV), args[i]? = some x → args1[i]? = some y → Given σ d x y)
    (h : Tri P f args1 [] fun r _ => r.pure = true ∧ Q r) : Tri P f args σ fun r σ' => Q r ∧ σ' = hkill σ d := by
  refine ⟨h.1, fun ρ w G args' hw hargs => ?_⟩
  have hp : pureL args1 = true := pureL_of fun y hy => by
    obtain ⟨i, hi⟩ := List.getElem?_of_mem hy
    have hlt : i < args.length := by rw [hl]; exact idx_lt hi
    exact given_pure (hg i args[i] y (List.getElem?_eq_getElem hlt) hi)
  have hk := kill_keeps σ ρ w d
  refine ((Tri.pureD hp h (hkill σ d)).2 ρ w G args' (kill_wrel hw d) ⟨hl ▸ hargs.1, fun i y v hy hv => ?_⟩).mono ?_
  · have hlt : i < args.length := by rw [hl]; exact idx_lt hy
    exact given_rel hw (hg i args[i] y (List.getElem?_eq_getElem hlt) hy) (hargs.2 i _ v (List.getElem?_eq_getElem hlt) hv)
  · rintro e w' ⟨v, ρ', r, σ', h1, h2, k1, k2, k3⟩
    exact ⟨v, ρ', r, σ', h1, h2, hk.trans k1, k2, k3⟩
theorem given1 {σ : AHeap} {d : Nat} {x y : AV} (h : Given σ d x y) : ∀ (i : Nat) (a b : AV), [x][i]? = some a → [y][i]? = some b → Given σ d a b := by
  intro i a b ha hb
  cases i with
  | zero => simp at ha hb; subst ha; subst hb; exact h
  | succ n => simp at ha
theorem given2 {σ : AHeap} {d : Nat} {x y x' y' : AV} (h : Given σ d x y) (h' : Given σ d x' y') : ∀ (i : Nat) (a b : AV), [x, x'][i]? = some a → [y, y'][i]? = some b → Given σ d a b := by
  intro i a b ha hb
  match i with
  | 0 => simp at ha hb; subst ha; subst hb; exact h
  | 1 => simp at ha hb; subst ha; subst hb; exact h'
  | n + 2 => simp at ha
end Go.Gz
