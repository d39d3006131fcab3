/- What a call does in an empty heap it does in any; tables of calls; loops. -/
import Derived.Test.YtnooejmbhdgbpaaGreatDoorK25
set_option linter.unusedVariables false
set_option linter.unusedSimpArgs false
namespace Go.Gz
theorem flat_rel {C C' : Ctx} {x : AV} {v : Value} (hx : x.flat = true) (h : VRel C x v) : VRel C' x v := by
  cases x <;> simp [AV.flat] at hx <;> cases h <;> constructor
theorem owned_lt {σ : AHeap} {ρ : Nat → Place} {w : World} {G : Nat → Prop} (hw : WRel σ ρ w G) {b : Nat} (h : owned σ ρ b) : b < w.heap.size := by
  obtain ⟨id, c, h1, h2, rfl⟩ := h
  exact hw.lt h1 h2
theorem Glob.framed {σ : AHeap} {ρ : Nat → Place} {w : World} {G : Nat → Prop} (h : Glob (ctx σ ρ w G)) : Glob (ctx [] ρ w (fun b => owned σ ρ b ∨ G b)) := by
  obtain ⟨w0, h0, h1⟩ := h
  refine ⟨w0, h0, fun b hb => ⟨?_, (h1 b hb).2⟩⟩
  rintro (⟨id, c, h, _⟩ | h)
  · simp at h
  · exact (h1 b hb).1 h
theorem Glob.bare {σ : AHeap} {ρ : Nat → Place} {w : World} {G : Nat → Prop} (h : Glob (ctx σ ρ w G)) : Glob (ctx [] ρ w G) := by
  obtain ⟨w0, h0, h1⟩ := h
  refine ⟨w0, h0, fun b hb => ⟨?_, (h1 b hb).2⟩⟩
  rintro (⟨id, c, h, _⟩ | h)
  · simp at h
  · exact (h1 b hb).1 (.inr h)
/-- A call whose arguments and whose answer name no place: the heap is as it was. -/
theorem Tri.frame {P : Program} {f : FuncId} {args : List AV} {Q : AV → Prop} (ha : flatL args) (h : Tri P f args [] fun r _ => r.flat = true ∧ Q r) (σ : AHeap) : Tri P f args σ fun r σ' => Q r ∧ σ' = σ := by
  refine ⟨h.1, fun ρ w G args' hw hargs => ?_⟩
  have hw0 : WRel [] ρ w (fun b => owned σ ρ b ∨ G b) := ⟨fun id c h => by simp at h, fun id c h => by simp at h, fun id id' c c' h => by simp at h, fun id c h => by simp at h, fun b hb => hb.elim (owned_lt hw) (hw.gsz b), hw.glob.framed⟩
  refine (h.2 ρ w _ args' hw0 ⟨hargs.1, fun i x v hx hv => flat_rel (ha x (List.mem_of_getElem? hx)) (hargs.2 i x v hx hv)⟩).mono ?_
  rintro e w' ⟨v, ρ', r, σ', h1, ⟨hr, hq⟩, k, k2, k3⟩
  have hk : Keeps σ ρ w σ ρ w' := ⟨k.os, k.tape, k.output, k.size, fun b hb _ => k.frame b hb (by rintro ⟨id, c, h, _⟩; simp at h), fun b hb => .inl hb, Nat.le_refl _, fun _ _ => rfl⟩
  refine ⟨v, ρ, r, σ, h1, ⟨hq, rfl⟩, hk, ⟨fun id cells hi hn => ?_, fun id cells hi hn => (hw.nil id cells hi hn).of (fun x v hx => hx.keeps hw hk) (fun he => k.frame _ (owned_lt hw ⟨id, cells, hi, .inr he, rfl⟩) (by rintro ⟨id, c, h, _⟩; simp at h)), hw.excl, hw.sep, fun b hb => Nat.lt_of_lt_of_le (hw.gsz b hb) k.size, hw.glob.keeps hk⟩, flat_rel hr k3⟩
  exact (hw.blk id cells hi hn).of (fun x v hx => hx.keeps hw hk) (k.frame _ (owned_lt hw ⟨id, cells, hi, .inl hn, rfl⟩) (by rintro ⟨id, c, h, _⟩; simp at h))
/-- What is deeply flat. -/
def AV.flatD : AV → Bool
  | .tuple vs => vs.all AV.flat
  | .agg vs => vs.all AV.flat
  | x => x.flat
theorem flatD_rel {C C' : Ctx} {x : AV} {v : Value} (hx : x.flatD = true) (h : VRel C x v) : VRel C' x v := by
  have key : ∀ {vs : List AV} {us : Array Value}, vs.all AV.flat = true → LRel C vs us.toList → LRel C' vs us.toList := by
    intro vs us ha hl
    exact ⟨hl.1, fun i x v hx hv => flat_rel (List.all_eq_true.1 ha x (List.mem_of_getElem? hx)) (hl.2 i x v hx hv)⟩
  cases x with
  | tuple vs => obtain ⟨us, rfl, hl⟩ := h.tuple_inv; exact LRel.tuple (key hx hl)
  | agg vs => obtain ⟨us, rfl, hl⟩ := h.agg_inv; exact LRel.agg (key hx hl)
  | _ => exact flat_rel hx h
/-- A call that is shown what lies in the heap, and whose answer names no place: the heap is as it was. -/
theorem Tri.view {P : Program} {f : FuncId} {args args1 : List AV} {σ : AHeap} {Q : AV → Prop} (hv : wvs σ [] args args1) (h : Tri P f args1 [] fun r _ => r.flatD = true ∧ Q r) : Tri P f args σ fun r σ' => Q r ∧ σ' = σ := by
  refine ⟨h.1, fun ρ w G args' hw hargs => ?_⟩
  have hσ : WkH 0 σ (Keep.src []) [] := wkh_of (keep := []) (n0 := 0) rfl (by unfold blksP; trivial)
  have hw0 := wkh_wrel hw hσ
  obtain ⟨l1, l2⟩ := wvs_ok (σ := σ) (σ1 := []) (keep := []) rfl hv
  refine (h.2 _ w _ args' hw0 ⟨by rw [← l1]; exact hargs.1, fun i y v hy hv => ?_⟩).mono ?_
  · have hi : i < args.length := by rw [l1]; exact idx_lt hy
    exact wkv_ok hw hσ (l2 i args[i] y (List.getElem?_eq_getElem hi) hy) (hargs.2 i _ v (List.getElem?_eq_getElem hi) hv)
  · rintro e w' ⟨v, ρ', r, σ', h1, ⟨hr, hq⟩, k, k2, k3⟩
    have hk : Keeps σ ρ w σ ρ w' := ⟨k.os, k.tape, k.output, k.size, fun b hb _ => k.frame b hb (by rintro ⟨id, c, h, _⟩; simp at h), fun b hb => .inl hb, Nat.le_refl _, fun _ _ => rfl⟩
    refine ⟨v, ρ, r, σ, h1, ⟨hq, rfl⟩, hk, ⟨fun id cells hi hn => ?_, fun id cells hi hn => (hw.nil id cells hi hn).of (fun x v hx => hx.keeps hw hk) (fun he => k.frame _ (owned_lt hw ⟨id, cells, hi, .inr he, rfl⟩) (by rintro ⟨id, c, h, _⟩; simp at h)), hw.excl, hw.sep, fun b hb => Nat.lt_of_lt_of_le (hw.gsz b hb) k.size, hw.glob.keeps hk⟩, flatD_rel hr k3⟩
    exact (hw.blk id cells hi hn).of (fun x v hx => hx.keeps hw hk) (k.frame _ (owned_lt hw ⟨id, cells, hi, .inl hn, rfl⟩) (by rintro ⟨id, c, h, _⟩; simp at h))
/-- What names no place that may be written: flat values, rows that nobody writes. -/
def AV.clean : AV → Prop
  | .imm rows _ _ => flatLL rows
  | x => x.flat = true
def AV.cleanD : AV → Prop
  | .tuple vs => ∀ v ∈ vs, v.clean
  | .agg vs => ∀ v ∈ vs, v.clean
  | x => x.clean
theorem clean_rel {C C' : Ctx} (hm : ∀ b, b < C.w.heap.size → ¬ C.O b → ¬ C'.O b ∧ C'.w.heap[b]? = C.w.heap[b]?) {x : AV} {v : Value} (hx : x.clean) (h : VRel C x v) : VRel C' x v := by
  cases x with
  | imm rows full nn =>
    have hf : flatLL rows := hx
    cases h with
    | imm _ _ _ b o c esz f h1 h2 h3 hc hr =>
      refine .imm rows full nn b o c esz f h1 h2 h3 (fun i row j x hi hj => ?_) (fun i row j x hi hj => ?_)
      · obtain ⟨k1, k2⟩ := hc i row j x hi hj
        obtain ⟨k3, k4⟩ := hm b (cell?_lt k1) k2
        exact ⟨by rw [cell?_block (w' := C'.w) (w := C.w) k4]; exact k1, k3⟩
      · exact flat_rel (hf row (List.mem_of_getElem? hi) x (List.mem_of_getElem? hj)) (hr i row j x hi hj)
    | immNil => exact .immNil _
    | immVoid _ _ a => exact .immVoid _ _ a
  | _ => exact flat_rel hx h
theorem cleanD_rel {C C' : Ctx} (hm : ∀ b, b < C.w.heap.size → ¬ C.O b → ¬ C'.O b ∧ C'.w.heap[b]? = C.w.heap[b]?) {x : AV} {v : Value} (hx : x.cleanD) (h : VRel C x v) : VRel C' x v := by
  have key : ∀ {vs : List AV} {us : Array Value}, (∀ v ∈ vs, v.clean) → LRel C vs us.toList → LRel C' vs us.toList := by
    intro vs us ha hl
    exact ⟨hl.1, fun i x v hx hv => clean_rel hm (ha x (List.mem_of_getElem? hx)) (hl.2 i x v hx hv)⟩
  cases x with
  | tuple vs => obtain ⟨us, rfl, hl⟩ := h.tuple_inv; exact LRel.tuple (key hx hl)
  | agg vs => obtain ⟨us, rfl, hl⟩ := h.agg_inv; exact LRel.agg (key hx hl)
  | _ => exact clean_rel hm hx h
/-- A call that is handed, and answers, nothing that may be written: it goes in any heap, and leaves it alone. -/
theorem Tri.pureF {P : Program} {f : FuncId} {args : List AV} {Q : AV → Prop} (ha : ∀ x ∈ args, x.cleanD) (h : Tri P f args [] fun r _ => r.cleanD ∧ Q r) (σ : AHeap) : Tri P f args σ fun r σ' => Q r ∧ σ' = σ := by
  refine ⟨h.1, fun ρ w G args' hw hargs => ?_⟩
  have hw0 : WRel [] ρ w (fun b => owned σ ρ b ∨ G b) := ⟨fun id c h => by simp at h, fun id c h => by simp at h, fun id id' c c' h => by simp at h, fun id c h => by simp at h, fun b hb => hb.elim (owned_lt hw) (hw.gsz b), hw.glob.framed⟩
  have hm1 : ∀ b, b < (ctx σ ρ w G).w.heap.size → ¬ (ctx σ ρ w G).O b → ¬ (ctx [] ρ w (fun b => owned σ ρ b ∨ G b)).O b ∧ (ctx [] ρ w (fun b => owned σ ρ b ∨ G b)).w.heap[b]? = (ctx σ ρ w G).w.heap[b]? := by
    intro b _ hb
    refine ⟨?_, rfl⟩
    rintro (⟨id, c, h, _⟩ | h)
    · simp at h
    · exact hb h
  refine (h.2 ρ w _ args' hw0 ⟨hargs.1, fun i x v hx hv => cleanD_rel hm1 (ha x (List.mem_of_getElem? hx)) (hargs.2 i x v hx hv)⟩).mono ?_
  rintro e w' ⟨v, ρ', r, σ', h1, ⟨hr, hq⟩, k, k2, k3⟩
  have hk : Keeps σ ρ w σ ρ w' := ⟨k.os, k.tape, k.output, k.size, fun b hb _ => k.frame b hb (by rintro ⟨id, c, h, _⟩; simp at h), fun b hb => .inl hb, Nat.le_refl _, fun _ _ => rfl⟩
  refine ⟨v, ρ, r, σ, h1, ⟨hq, rfl⟩, hk, ⟨fun id cells hi hn => ?_, fun id cells hi hn => (hw.nil id cells hi hn).of (fun x v hx => hx.keeps hw hk) (fun he => k.frame _ (owned_lt hw ⟨id, cells, hi, .inr he, rfl⟩) (by rintro ⟨id, c, h, _⟩; simp at h)), hw.excl, hw.sep, fun b hb => Nat.lt_of_lt_of_le (hw.gsz b hb) k.size, hw.glob.keeps hk⟩, cleanD_rel (C := ctx σ' ρ' w' (fun b => owned σ ρ b ∨ G b)) (C' := ctx σ ρ w' G) (fun b _ hb => ⟨fun h => hb (Or.inr h), rfl⟩) hr k3⟩
  exact (hw.blk id cells hi hn).of (fun x v hx => hx.keeps hw hk) (k.frame _ (owned_lt hw ⟨id, cells, hi, .inl hn, rfl⟩) (by rintro ⟨id, c, h, _⟩; simp at h))
/-- A value's blocks, so many further on. -/
def shC (n : Nat) : AV → AV
  | .slice d o l c e => .slice (d + n) o l c e
  | x => x
def shOK : AV → Prop
  | .slice _ _ _ _ _ => True
  | x => x.flat = true
def shV (n : Nat) : AV → AV
  | .agg vs => .agg (vs.map (shC n))
  | x => shC n x
def shVOK : AV → Prop
  | .agg vs => ∀ v ∈ vs, shOK v
  | x => shOK x
/-- A call that is shown what lies in the heap, and answers a pair: what it made lies behind all that there was. -/
theorem Tri.behind {P : Program} {f : FuncId} {args args1 : List AV} {σ : AHeap} {Q : List AV → AHeap → Prop} (hv : wvs σ [] args args1)
    (h : Tri P f args1 [] fun r τ => ∃ vs, r = .tuple vs ∧ Q vs τ ∧ (∀ v ∈ vs, shVOK v) ∧ ∀ (id : Nat) c, τ[id]? = some (some c) → flatL c) :
    Tri P f args σ fun r σ' => ∃ vs τ, Q vs τ ∧ r = .tuple (vs.map (shV σ.length)) ∧ σ' = σ ++ τ := by
  refine ⟨h.1, fun ρ w G args' hw hargs => ?_⟩
  have hσ : WkH 0 σ (Keep.src []) [] := wkh_of (keep := []) (n0 := 0) rfl (by unfold blksP; trivial)
  have hw0 := wkh_wrel hw hσ
  obtain ⟨l1, l2⟩ := wvs_ok (σ := σ) (σ1 := []) (keep := []) rfl hv
  refine (h.2 _ w _ args' hw0 ⟨by rw [← l1]; exact hargs.1, fun i y v hy hv => ?_⟩).mono ?_
  · have hi : i < args.length := by rw [l1]; exact idx_lt hy
    exact wkv_ok hw hσ (l2 i args[i] y (List.getElem?_eq_getElem hi) hy) (hargs.2 i _ v (List.getElem?_eq_getElem hi) hv)
  rintro e w' ⟨v, ρ', r, τ, h1, ⟨vs, rfl, hq, hvs, hfl⟩, k, k2, k3⟩
  let ρ2 : Nat → Place := fun id => if id < σ.length then ρ id else ρ' (id - σ.length)
  have r1 : ∀ id, id < σ.length → ρ2 id = ρ id := fun id h => if_pos h
  have r2 : ∀ id, ρ2 (id + σ.length) = ρ' id := fun id => by
    show (if id + σ.length < σ.length then _ else _) = _
    rw [if_neg (by omega), Nat.add_sub_cancel]
  have fresh : ∀ b, owned τ ρ' b → w.heap.size ≤ b := fun b hb => (k.own b hb).elim (fun ⟨id, c, h, _⟩ => by simp at h) _root_.id
  have at_ : ∀ (id : Nat) c, (σ ++ τ)[id]? = some (some c) → (id < σ.length ∧ σ[id]? = some (some c)) ∨ (∃ j, id = j + σ.length ∧ τ[j]? = some (some c)) := by
    intro id c h
    by_cases hlt : id < σ.length
    · rw [List.getElem?_append_left hlt] at h; exact .inl ⟨hlt, h⟩
    · rw [List.getElem?_append_right (by omega)] at h; exact .inr ⟨id - σ.length, by omega, h⟩
  have own2 : ∀ b, owned (σ ++ τ) ρ2 b → owned σ ρ b ∨ owned τ ρ' b := by
    rintro b ⟨id, c, h0, hn, hb⟩
    rcases at_ id c h0 with ⟨hlt, h⟩ | ⟨j, rfl, h⟩
    · rw [r1 id hlt] at hn hb; exact .inl ⟨id, c, h, hn, hb⟩
    · rw [r2] at hn hb; exact .inr ⟨j, c, h, hn, hb⟩
  have hk : Keeps σ ρ w (σ ++ τ) ρ2 w' := ⟨k.os, k.tape, k.output, k.size, fun b hb _ => k.frame b hb (by rintro ⟨id, c, h, _⟩; simp at h), fun b hb => (own2 b hb).elim .inl (fun h => .inr (fresh b h)), by simp, r1⟩
  have hcell : ∀ {x : AV} {u : Value}, shOK x → VRel (ctx τ ρ' w' G) x u → VRel (ctx (σ ++ τ) ρ2 w' G) (shC σ.length x) u := by
    intro x u hx hr
    cases x with
    | slice d o l c e =>
      cases hr with
      | slice _ _ _ _ _ b o' c' i1 i2 i3 i4 i6 =>
        have e1 : (ctx (σ ++ τ) ρ2 w' G).ρ (d + σ.length) = ρ' d := r2 d
        refine VRel.slice _ _ _ _ _ b o' c' ?_ ?_ i3 i4 ?_
        · show d + σ.length < (σ ++ τ).length
          have : d < τ.length := i1
          simp; omega
        · rw [e1]; exact i2
        · rw [e1]; exact i6
      | sliceNil _ _ _ _ a i1 i2 i3 i4 =>
        have e1 : (ctx (σ ++ τ) ρ2 w' G).ρ (d + σ.length) = ρ' d := r2 d
        refine VRel.sliceNil _ _ _ _ a ?_ ?_ i3 i4
        · show d + σ.length < (σ ++ τ).length
          have : d < τ.length := i1
          simp; omega
        · rw [e1]; exact i2
    | _ => exact flat_rel hx hr
  have hval : ∀ {x : AV} {u : Value}, shVOK x → VRel (ctx τ ρ' w' G) x u → VRel (ctx (σ ++ τ) ρ2 w' G) (shV σ.length x) u := by
    have hsame : ∀ {x : AV} {u : Value}, (∀ ws, x ≠ .agg ws) → shVOK x → VRel (ctx τ ρ' w' G) x u → VRel (ctx (σ ++ τ) ρ2 w' G) (shV σ.length x) u := by
      intro x u hna hx hr
      have e : shVOK x = shOK x ∧ shV σ.length x = shC σ.length x := by cases x <;> first | exact ⟨rfl, rfl⟩ | exact absurd rfl (hna _)
      rw [e.2]; rw [e.1] at hx
      exact hcell hx hr
    intro x u hx hr
    cases x with
    | agg ws =>
      obtain ⟨us, rfl, hl⟩ := hr.agg_inv
      refine LRel.agg ⟨by simpa using hl.1, fun i y z hy hz => ?_⟩
      rw [List.getElem?_map] at hy
      cases hwi : ws[i]? with
      | none => simp [hwi] at hy
      | some q => simp [hwi] at hy; subst hy; exact hcell (hx q (List.mem_of_getElem? hwi)) (hl.2 i q z hwi hz)
    | _ => exact hsame (by intro ws h; cases h) hx hr
  refine ⟨v, ρ2, _, σ ++ τ, h1, ⟨vs, τ, hq, rfl, rfl⟩, hk, ⟨fun id cells hi hn => ?_, fun id cells hi hn => ?_, fun i j c c' hi hj hni hnj hb => ?_, fun id c hi hn => ?_, fun b hb => Nat.lt_of_lt_of_le (hw.gsz b hb) k.size, hw.glob.keeps hk⟩, ?_⟩
  · rcases at_ id cells hi with ⟨hlt, h⟩ | ⟨j, rfl, h⟩
    · rw [r1 id hlt] at hn ⊢
      exact (hw.blk id cells h hn).of (fun x u hx => hx.keeps hw hk) (k.frame _ (owned_lt hw ⟨id, cells, h, .inl hn, rfl⟩) (by rintro ⟨id, c, h, _⟩; simp at h))
    · rw [r2] at hn ⊢
      obtain ⟨c, t, fr, q1, q2, q3, q4, q5⟩ := k2.blk j cells h hn
      exact ⟨c, t, fr, q1, q2, q3, q4, fun i x hx => by
        obtain ⟨u, u1, u2⟩ := q5 i x hx
        exact ⟨u, u1, flat_rel (hfl j cells h x (List.mem_of_getElem? hx)) u2⟩⟩
  · rcases at_ id cells hi with ⟨hlt, h⟩ | ⟨j, rfl, h⟩
    · rw [r1 id hlt] at hn ⊢
      exact (hw.nil id cells h hn).of (fun x u hx => hx.keeps hw hk) (fun he => k.frame _ (owned_lt hw ⟨id, cells, h, .inr he, rfl⟩) (by rintro ⟨id, c, h, _⟩; simp at h))
    · rw [r2] at hn ⊢
      refine ⟨fun he => ?_, (k2.nil j cells h hn).2⟩
      obtain ⟨es, ck, q1, q2, q3, q4⟩ := (k2.nil j cells h hn).1 he
      exact ⟨es, ck, q1, ⟨q2.1, fun i x u hx hu => flat_rel (hfl j cells h x (List.mem_of_getElem? hx)) (q2.2 i x u hx hu)⟩, q3, q4⟩
  · rcases at_ i c hi with ⟨hlt, h⟩ | ⟨i', rfl, h⟩ <;> rcases at_ j c' hj with ⟨hlt', h'⟩ | ⟨j', rfl, h'⟩
    · rw [r1 i hlt] at hni hb; rw [r1 j hlt'] at hnj hb; exact hw.excl i j c c' h h' hni hnj hb
    · rw [r1 i hlt] at hni hb; rw [r2] at hnj hb
      have a1 := owned_lt hw ⟨i, c, h, hni, rfl⟩
      have a2 := fresh _ ⟨j', c', h', hnj, rfl⟩
      rw [← hb] at a2; omega
    · rw [r2] at hni hb; rw [r1 j hlt'] at hnj hb
      have a1 := owned_lt hw ⟨j, c', h', hnj, rfl⟩
      have a2 := fresh _ ⟨i', c, h, hni, rfl⟩
      rw [hb] at a2; omega
    · rw [r2] at hni hnj hb; rw [r2] at hb
      rw [k2.excl i' j' c c' h h' hni hnj hb]
  · rcases at_ id c hi with ⟨hlt, h⟩ | ⟨j, rfl, h⟩
    · rw [r1 id hlt] at hn ⊢; exact hw.sep id c h hn
    · rw [r2] at hn ⊢; exact k2.sep j c h hn
  · obtain ⟨us, rfl, hl⟩ := k3.tuple_inv
    refine LRel.tuple ⟨by simpa using hl.1, fun i y z hy hz => ?_⟩
    rw [List.getElem?_map] at hy
    cases hwi : vs[i]? with
    | none => simp [hwi] at hy
    | some q => simp [hwi] at hy; subst hy; exact hval (hvs q (List.mem_of_getElem? hwi)) (hl.2 i q z hwi hz)
/-- What is to be shown at the end of a loop's body. -/
def loopR (C : PCall) (n0 : Nat) (R : MExit → Env → AHeap → Prop) (k : Cont) (I : Nat → Env → AHeap → Prop) (n : Nat) : MExit → Env → AHeap → Prop := fun x e' σ' =>
  match x with
  | .normal => ∃ m e1 σ1, m < n ∧ WkR n0 e' σ' e1 σ1 ∧ I m e1 σ1
  | x => unw C n0 R k x e' σ'
section
variable {C : PCall} {n0 : Nat} {R : MExit → Env → AHeap → Prop} {k : Cont} {e : Env} {σ : AHeap} {I : Nat → Env → AHeap → Prop} {n : Nat}
theorem loopR_exit {i : Nat} : loopR C n0 R k I n (.exit i) e σ = unw C n0 R k (.exit i) e σ := _root_.id rfl
theorem loopR_ret : loopR C n0 R k I n .ret e σ = unw C n0 R k .ret e σ := _root_.id rfl
theorem loopR_normal : loopR C n0 R k I n .normal e σ = ∃ m e1 σ1, m < n ∧ WkR n0 e σ e1 σ1 ∧ I m e1 σ1 := rfl
theorem sC_inv {a : SCode} (I : Nat → Env → AHeap → Prop) (n : Nat) (e1 : Env) (σ1 : AHeap) (h0 : WkR n0 e σ e1 σ1) (h1 : I n e1 σ1)
    (h2 : ∀ n e σ, I n e σ → sC C n0 a (unw C n0 (loopR C n0 R k I n) .fin) e σ) : sC C n0 (.loop a) (unw C n0 R k) e σ := sC_loop I n e1 σ1 h0 h1 h2
end
/-- Of a call nothing but what the table's other rows say. -/
def noCall : PCall := fun _ _ _ _ => False
theorem noCall_sound (P : Program) : Sound P noCall := fun _ _ _ _ h => h.elim
theorem noCall_mono : MonoC noCall := fun _ _ _ _ _ _ h => h
/-- A row of a table: a function that is done where it is called. -/
def rowF (f : FuncId) (C0 : PCall) (mf : SFunc) (C : PCall) : PCall := fun g args σ K => if g = f then sF C0 mf args σ K else C g args σ K
def rowQ (f : FuncId) (D : List AV → AHeap → (AV → AHeap → Prop) → Prop) (C : PCall) : PCall := fun g args σ K => if g = f then D args σ K else C g args σ K
theorem rowF_sound {P : Program} {f : FuncId} {C0 C : PCall} {mf : SFunc} (hf : sFn P f = some mf) (h0 : Sound P C0) (hc : Sound P C) : Sound P (rowF f C0 mf C) := by
  intro g args σ K h
  unfold rowF at h
  split at h
  · rename_i hg; subst hg; exact Tri.of_s hf h0 h
  · exact hc _ _ _ _ h
theorem rowQ_sound {P : Program} {f : FuncId} {C : PCall} {D : List AV → AHeap → (AV → AHeap → Prop) → Prop} (hd : ∀ args σ K, D args σ K → Tri P f args σ K) (hc : Sound P C) : Sound P (rowQ f D C) := by
  intro g args σ K h
  unfold rowQ at h
  split at h
  · rename_i hg; subst hg; exact hd _ _ _ h
  · exact hc _ _ _ _ h
theorem rowF_mono {f : FuncId} {C0 C : PCall} {mf : SFunc} (h0 : MonoC C0) (hc : MonoC C) : MonoC (rowF f C0 mf C) := by
  intro g args σ K K' hk h
  unfold rowF at h ⊢
  split at h
  · rename_i hg; rw [if_pos hg]; exact sF_mono h0 hk h
  · rename_i hg; rw [if_neg hg]; exact hc _ _ _ _ _ hk h
theorem rowQ_mono {f : FuncId} {C : PCall} {D : List AV → AHeap → (AV → AHeap → Prop) → Prop} (hd : ∀ args σ (K K' : AV → AHeap → Prop), (∀ v σ, K v σ → K' v σ) → D args σ K → D args σ K') (hc : MonoC C) : MonoC (rowQ f D C) := by
  intro g args σ K K' hk h
  unfold rowQ at h ⊢
  split at h
  · rename_i hg; rw [if_pos hg]; exact hd _ _ _ _ hk h
  · rename_i hg; rw [if_neg hg]; exact hc _ _ _ _ _ hk h
theorem rowF_eq {f g : FuncId} {C0 C : PCall} {mf : SFunc} {args : List AV} {σ : AHeap} {K : AV → AHeap → Prop} : rowF f C0 mf C g args σ K = if g = f then sF C0 mf args σ K else C g args σ K := _root_.id rfl
theorem rowQ_eq {f g : FuncId} {D : List AV → AHeap → (AV → AHeap → Prop) → Prop} {C : PCall} {args : List AV} {σ : AHeap} {K : AV → AHeap → Prop} : rowQ f D C g args σ K = if g = f then D args σ K else C g args σ K := _root_.id rfl
end Go.Gz
