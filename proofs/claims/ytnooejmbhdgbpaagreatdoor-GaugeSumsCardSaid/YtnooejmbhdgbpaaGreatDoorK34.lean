/- Calls that make something new, handed values that hold nothing that may be written; nil for rows of nothing. No condition. -/
import Derived.Test.YtnooejmbhdgbpaaGreatDoorK33
set_option linter.unusedVariables false
set_option linter.unusedSimpArgs false
namespace Go.Gz
/-- A call that is handed nothing that may be written, and answers a pair: what it made lies behind all that there was. -/
theorem Tri.behindP {P : Program} {f : FuncId} {args : List AV} {σ : AHeap} {Q : List AV → AHeap → Prop} (hp : pureL args = true)
    (h : Tri P f args [] fun r τ => ∃ vs, r = .tuple vs ∧ Q vs τ ∧ (∀ v ∈ vs, shVOK v) ∧ ∀ (id : Nat) c, τ[id]? = some (some c) → flatL c) :
    Tri P f args σ fun r σ' => ∃ vs τ, Q vs τ ∧ r = .tuple (vs.map (shV σ.length)) ∧ σ' = σ ++ τ := by
  refine ⟨h.1, fun ρ w G args' hw hargs => ?_⟩
  have hw0 : WRel [] ρ w G := ⟨fun id c h => by simp at h, fun id c h => by simp at h, fun id id' c c' h => by simp at h, fun id c h => by simp at h, hw.gsz, hw.glob.bare⟩
  have hm1 : ∀ b, b < (ctx σ ρ w G).w.heap.size → ¬ (ctx σ ρ w G).O b → ¬ (ctx [] ρ w G).O b ∧ (ctx [] ρ w G).w.heap[b]? = (ctx σ ρ w G).w.heap[b]? := by
    intro b _ hb
    refine ⟨?_, rfl⟩
    rintro (⟨id, c, h, _⟩ | h)
    · simp at h
    · exact hb (.inr h)
  refine (h.2 ρ w _ args' hw0 ⟨hargs.1, fun i x v hx hv => pure_rel hm1 (hargs.2 i x v hx hv) (pureL_all hp x (List.mem_of_getElem? hx))⟩).mono ?_
  rintro e w' ⟨v, ρ', r, τ, h1, ⟨vs, rfl, hq, hvs, hfl⟩, k, k2, k3⟩
  let ρ2 : Nat → Place := fun id => if id < σ.length then ρ id else ρ' (id - σ.length)
  have r1 : ∀ id, id < σ.length → ρ2 id = ρ id := fun id h => if_pos h
  have r2 : ∀ id, ρ2 (id + σ.length) = ρ' id := fun id => by
    show (if id + σ.length < σ.length then _ else _) = _
    rw [if_neg (by omega), Nat.add_sub_cancel]
  have fresh : ∀ b, owned τ ρ' b → w.heap.size ≤ b := fun b hb => (k.own b hb).elim (fun ⟨id, c, h, _⟩ => by simp at h) _root_.id
  have at_ : ∀ (id : Nat) c, (σ ++ τ)[id]? = some (some c) → (id < σ.length ∧ σ[id]? = some (some c)) ∨ (∃ j, id = j + σ.length ∧ τ[j]? = some (some c)) := by
    intro id c h
    by_cases hlt : id < σ.length
    · rw [List.getElem?_append_left hlt] at h; exact .inl ⟨hlt, h⟩
    · rw [List.getElem?_append_right (by omega)] at h; exact .inr ⟨id - σ.length, by omega, h⟩
  have own2 : ∀ b, owned (σ ++ τ) ρ2 b → owned σ ρ b ∨ owned τ ρ' b := by
    rintro b ⟨id, c, h0, hn, hb⟩
    rcases at_ id c h0 with ⟨hlt, h⟩ | ⟨j, rfl, h⟩
    · rw [r1 id hlt] at hn hb; exact .inl ⟨id, c, h, hn, hb⟩
    · rw [r2] at hn hb; exact .inr ⟨j, c, h, hn, hb⟩
  have hk : Keeps σ ρ w (σ ++ τ) ρ2 w' := ⟨k.os, k.tape, k.output, k.size, fun b hb _ => k.frame b hb (by rintro ⟨id, c, h, _⟩; simp at h), fun b hb => (own2 b hb).elim .inl (fun h => .inr (fresh b h)), by simp, r1⟩
  have hcell : ∀ {x : AV} {u : Value}, shOK x → VRel (ctx τ ρ' w' G) x u → VRel (ctx (σ ++ τ) ρ2 w' G) (shC σ.length x) u := by
    intro x u hx hr
    cases x with
    | slice d o l c e =>
      cases hr with
      | slice _ _ _ _ _ b o' c' i1 i2 i3 i4 i6 =>
        have e1 : (ctx (σ ++ τ) ρ2 w' G).ρ (d + σ.length) = ρ' d := r2 d
        refine VRel.slice _ _ _ _ _ b o' c' ?_ ?_ i3 i4 ?_
        · show d + σ.length < (σ ++ τ).length
          have : d < τ.length := i1
          simp; omega
        · rw [e1]; exact i2
        · rw [e1]; exact i6
      | sliceNil _ _ _ _ a i1 i2 i3 i4 =>
        have e1 : (ctx (σ ++ τ) ρ2 w' G).ρ (d + σ.length) = ρ' d := r2 d
        refine VRel.sliceNil _ _ _ _ a ?_ ?_ i3 i4
        · show d + σ.length < (σ ++ τ).length
          have : d < τ.length := i1
          simp; omega
        · rw [e1]; exact i2
    | _ => exact flat_rel hx hr
  have hval : ∀ {x : AV} {u : Value}, shVOK x → VRel (ctx τ ρ' w' G) x u → VRel (ctx (σ ++ τ) ρ2 w' G) (shV σ.length x) u := by
    have hsame : ∀ {x : AV} {u : Value}, (∀ ws, x ≠ .agg ws) → shVOK x → VRel (ctx τ ρ' w' G) x u → VRel (ctx (σ ++ τ) ρ2 w' G) (shV σ.length x) u := by
      intro x u hna hx hr
      have e : shVOK x = shOK x ∧ shV σ.length x = shC σ.length x := by cases x <;> first | exact ⟨rfl, rfl⟩ | exact absurd rfl (hna _)
      rw [e.2]; rw [e.1] at hx
      exact hcell hx hr
    intro x u hx hr
    cases x with
    | agg ws =>
      obtain ⟨us, rfl, hl⟩ := hr.agg_inv
      refine LRel.agg ⟨by simpa using hl.1, fun i y z hy hz => ?_⟩
      rw [List.getElem?_map] at hy
      cases hwi : ws[i]? with
      | none => simp [hwi] at hy
      | some q => simp [hwi] at hy; subst hy; exact hcell (hx q (List.mem_of_getElem? hwi)) (hl.2 i q z hwi hz)
    | _ => exact hsame (by intro ws h; cases h) hx hr
  refine ⟨v, ρ2, _, σ ++ τ, h1, ⟨vs, τ, hq, rfl, rfl⟩, hk, ⟨fun id cells hi hn => ?_, fun id cells hi hn => ?_, fun i j c c' hi hj hni hnj hb => ?_, fun id c hi hn => ?_, fun b hb => Nat.lt_of_lt_of_le (hw.gsz b hb) k.size, hw.glob.keeps hk⟩, ?_⟩
  · rcases at_ id cells hi with ⟨hlt, h⟩ | ⟨j, rfl, h⟩
    · rw [r1 id hlt] at hn ⊢
      exact (hw.blk id cells h hn).of (fun x u hx => hx.keeps hw hk) (k.frame _ (owned_lt hw ⟨id, cells, h, .inl hn, rfl⟩) (by rintro ⟨id, c, h, _⟩; simp at h))
    · rw [r2] at hn ⊢
      obtain ⟨c, t, fr, q1, q2, q3, q4, q5⟩ := k2.blk j cells h hn
      exact ⟨c, t, fr, q1, q2, q3, q4, fun i x hx => by
        obtain ⟨u, u1, u2⟩ := q5 i x hx
        exact ⟨u, u1, flat_rel (hfl j cells h x (List.mem_of_getElem? hx)) u2⟩⟩
  · rcases at_ id cells hi with ⟨hlt, h⟩ | ⟨j, rfl, h⟩
    · rw [r1 id hlt] at hn ⊢
      exact (hw.nil id cells h hn).of (fun x u hx => hx.keeps hw hk) (fun he => k.frame _ (owned_lt hw ⟨id, cells, h, .inr he, rfl⟩) (by rintro ⟨id, c, h, _⟩; simp at h))
    · rw [r2] at hn ⊢
      refine ⟨fun he => ?_, (k2.nil j cells h hn).2⟩
      obtain ⟨es, ck, q1, q2, q3, q4⟩ := (k2.nil j cells h hn).1 he
      exact ⟨es, ck, q1, ⟨q2.1, fun i x u hx hu => flat_rel (hfl j cells h x (List.mem_of_getElem? hx)) (q2.2 i x u hx hu)⟩, q3, q4⟩
  · rcases at_ i c hi with ⟨hlt, h⟩ | ⟨i', rfl, h⟩ <;> rcases at_ j c' hj with ⟨hlt', h'⟩ | ⟨j', rfl, h'⟩
    · rw [r1 i hlt] at hni hb; rw [r1 j hlt'] at hnj hb; exact hw.excl i j c c' h h' hni hnj hb
    · rw [r1 i hlt] at hni hb; rw [r2] at hnj hb
      have a1 := owned_lt hw ⟨i, c, h, hni, rfl⟩
      have a2 := fresh _ ⟨j', c', h', hnj, rfl⟩
      rw [← hb] at a2; omega
    · rw [r2] at hni hb; rw [r1 j hlt'] at hnj hb
      have a1 := owned_lt hw ⟨j, c', h', hnj, rfl⟩
      have a2 := fresh _ ⟨i', c, h, hni, rfl⟩
      rw [hb] at a2; omega
    · rw [r2] at hni hnj hb; rw [r2] at hb
      rw [k2.excl i' j' c c' h h' hni hnj hb]
  · rcases at_ id c hi with ⟨hlt, h⟩ | ⟨j, rfl, h⟩
    · rw [r1 id hlt] at hn ⊢; exact hw.sep id c h hn
    · rw [r2] at hn ⊢; exact k2.sep j c h hn
  · obtain ⟨us, rfl, hl⟩ := k3.tuple_inv
    refine LRel.tuple ⟨by simpa using hl.1, fun i y z hy hz => ?_⟩
    rw [List.getElem?_map] at hy
    cases hwi : vs[i]? with
    | none => simp [hwi] at hy
    | some q => simp [hwi] at hy; subst hy; exact hval (hvs q (List.mem_of_getElem? hwi)) (hl.2 i q z hwi hz)
/-- Rows of nothing for nil. -/
def nz1 : AV → AV
  | .nilslice => .imm [] false false
  | x => x
theorem nz1_rel {C : Ctx} {x : AV} {v : Value} (h : VRel C x v) : VRel C (nz1 x) v := by
  cases h with
  | nilslice => exact .immNil false
  | bool b => exact .bool b
  | int k n => exact .int k n
  | str s => exact .str s
  | nilptr => exact .nilptr
  | ptr id off h1 h2 => exact .ptr id off h1 h2
  | iptr cells b o f hc hr => exact .iptr cells b o f hc hr
  | slice id off len cap esz b o c h1 h2 h3 h4 h6 => exact .slice id off len cap esz b o c h1 h2 h3 h4 h6
  | sliceNil id off cap esz a h1 h2 h3 h4 => exact .sliceNil id off cap esz a h1 h2 h3 h4
  | imm rows full nn b o c esz f h1 h2 h3 hc hr => exact .imm rows full nn b o c esz f h1 h2 h3 hc hr
  | immNil full => exact .immNil full
  | immVoid full nn a => exact .immVoid full nn a
  | func f caps caps' h1 h2 => exact .func f caps caps' h1 h2
  | nilfunc => exact .nilfunc
  | nilif => exact .nilif
  | someif t v => exact .someif t v
  | brow id len t c h1 h2 h3 h4 h5 h6 => exact .brow id len t c h1 h2 h3 h4 h5 h6
  | bptr id t h1 h2 h3 h4 => exact .bptr id t h1 h2 h3 h4
  | map id h1 h2 h3 => exact .map id h1 h2 h3
  | nilmap => exact .nilmap
  | agg cs cs' h1 h2 => exact .agg cs cs' h1 h2
  | tuple cs cs' h1 h2 => exact .tuple cs cs' h1 h2
  | unk v => exact .unk v
theorem nz_rel {C : Ctx} {cs : List AV} {v : Value} (h : VRel C (.agg cs) v) : VRel C (.agg (cs.map nz1)) v := by
  obtain ⟨us, rfl, hl⟩ := h.agg_inv
  refine LRel.agg ⟨by simpa using hl.1, fun i y z hy hz => ?_⟩
  rw [List.getElem?_map] at hy
  cases hwi : cs[i]? with
  | none => simp [hwi] at hy
  | some q => simp [hwi] at hy; subst hy; exact nz1_rel (hl.2 i q z hwi hz)
/-- A call of an aggregate in which rows of nothing are nil. -/
theorem Tri.nz {P : Program} {f : FuncId} {cs : List AV} {σ : AHeap} {Q : AV → AHeap → Prop} (h : Tri P f [.agg (cs.map nz1)] σ Q) : Tri P f [.agg cs] σ Q := by
  refine ⟨h.1, fun ρ w G args' hw hargs => h.2 ρ w G args' hw ⟨hargs.1, fun i x v hx hv => ?_⟩⟩
  match i with
  | 0 => simp at hx; subst hx; exact nz_rel (hargs.2 0 _ v rfl hv)
  | n + 1 => simp at hx
theorem nz1_frz {σ : AHeap} {x : AV} (h : x.pure = true) : Frz σ x (nz1 x) := by
  cases x <;> first | exact .pure h | exact .nil
theorem nz_frz {σ : AHeap} {cs : List AV} (h : pureL cs = true) : Frz σ (.agg cs) (.agg (cs.map nz1)) := by
  refine .agg (by simp) (fun i x y hx hy => ?_)
  rw [List.getElem?_map, hx] at hy
  simp at hy; subst hy
  exact nz1_frz (pureL_all h x (List.mem_of_getElem? hx))
end Go.Gz
