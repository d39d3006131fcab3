/- What one call made lies behind all that there was: one value. No condition. -/
import Derived.Test.YtbamlhgjpggihaaDoorK26
set_option linter.unusedVariables false
set_option linter.unusedSimpArgs false
namespace Go.Gz
/-- A call that is shown what lies in the heap, and answers one value: what it made lies behind all that there was. -/
theorem Tri.behind1 {P : Program} {f : FuncId} {args args1 : List AV} {σ : AHeap} {Q : AV → AHeap → Prop} (hv : wvs σ [] args args1)
    (h : Tri P f args1 [] fun r τ => Q r τ ∧ shVOK r ∧ ∀ (id : Nat) c, τ[id]? = some (some c) → flatL c) :
    Tri P f args σ fun r σ' => ∃ r0 τ, Q r0 τ ∧ r = shV σ.length r0 ∧ σ' = σ ++ τ := by
  refine ⟨h.1, fun ρ w G args' hw hargs => ?_⟩
  have hσ : WkH 0 σ (Keep.src []) [] := wkh_of (keep := []) (n0 := 0) rfl (by unfold blksP; trivial)
  have hw0 := wkh_wrel hw hσ
  obtain ⟨l1, l2⟩ := wvs_ok (σ := σ) (σ1 := []) (keep := []) rfl hv
  refine (h.2 _ w _ args' hw0 ⟨by rw [← l1]; exact hargs.1, fun i y v hy hv => ?_⟩).mono ?_
  · have hi : i < args.length := by rw [l1]; exact idx_lt hy
    exact wkv_ok hw hσ (l2 i args[i] y (List.getElem?_eq_getElem hi) hy) (hargs.2 i _ v (List.getElem?_eq_getElem hi) hv)
  rintro e w' ⟨v, ρ', r, τ, h1, ⟨hq, hvs, hfl⟩, k, k2, k3⟩
  let ρ2 : Nat → Place := fun id => if id < σ.length then ρ id else ρ' (id - σ.length)
  have r1 : ∀ id, id < σ.length → ρ2 id = ρ id := fun id h => if_pos h
  have r2 : ∀ id, ρ2 (id + σ.length) = ρ' id := fun id => by
    show (if id + σ.length < σ.length then _ else _) = _
    rw [if_neg (by omega), Nat.add_sub_cancel]
  have fresh : ∀ b, owned τ ρ' b → w.heap.size ≤ b := fun b hb => (k.own b hb).elim (fun ⟨id, c, h, _⟩ => by simp at h) _root_.id
  have at_ : ∀ (id : Nat) c, (σ ++ τ)[id]? = some (some c) → (id < σ.length ∧ σ[id]? = some (some c)) ∨ (∃ j, id = j + σ.length ∧ τ[j]? = some (some c)) := by
    intro id c h
    by_cases hlt : id < σ.length
    · rw [List.getElem?_append_left hlt] at h; exact .inl ⟨hlt, h⟩
    · rw [List.getElem?_append_right (by omega)] at h; exact .inr ⟨id - σ.length, by omega, h⟩
  have own2 : ∀ b, owned (σ ++ τ) ρ2 b → owned σ ρ b ∨ owned τ ρ' b := by
    rintro b ⟨id, c, h0, hn, hb⟩
    rcases at_ id c h0 with ⟨hlt, h⟩ | ⟨j, rfl, h⟩
    · rw [r1 id hlt] at hn hb; exact .inl ⟨id, c, h, hn, hb⟩
    · rw [r2] at hn hb; exact .inr ⟨j, c, h, hn, hb⟩
  have hk : Keeps σ ρ w (σ ++ τ) ρ2 w' := ⟨k.os, k.tape, k.output, k.size, fun b hb _ => k.frame b hb (by rintro ⟨id, c, h, _⟩; simp at h), fun b hb => (own2 b hb).elim .inl (fun h => .inr (fresh b h)), by simp, r1⟩
  have hcell : ∀ {x : AV} {u : Value}, shOK x → VRel (ctx τ ρ' w' G) x u → VRel (ctx (σ ++ τ) ρ2 w' G) (shC σ.length x) u := by
    intro x u hx hr
    cases x with
    | slice d o l c e =>
      cases hr with
      | slice _ _ _ _ _ b o' c' i1 i2 i3 i4 i6 =>
        have e1 : (ctx (σ ++ τ) ρ2 w' G).ρ (d + σ.length) = ρ' d := r2 d
        refine VRel.slice _ _ _ _ _ b o' c' ?_ ?_ i3 i4 ?_
        · show d + σ.length < (σ ++ τ).length
          have : d < τ.length := i1
          simp; omega
        · rw [e1]; exact i2
        · rw [e1]; exact i6
      | sliceNil _ _ _ _ a i1 i2 i3 i4 =>
        have e1 : (ctx (σ ++ τ) ρ2 w' G).ρ (d + σ.length) = ρ' d := r2 d
        refine VRel.sliceNil _ _ _ _ a ?_ ?_ i3 i4
        · show d + σ.length < (σ ++ τ).length
          have : d < τ.length := i1
          simp; omega
        · rw [e1]; exact i2
    | _ => exact flat_rel hx hr
  have hval : ∀ {x : AV} {u : Value}, shVOK x → VRel (ctx τ ρ' w' G) x u → VRel (ctx (σ ++ τ) ρ2 w' G) (shV σ.length x) u := by
    have hsame : ∀ {x : AV} {u : Value}, (∀ ws, x ≠ .agg ws) → shVOK x → VRel (ctx τ ρ' w' G) x u → VRel (ctx (σ ++ τ) ρ2 w' G) (shV σ.length x) u := by
      intro x u hna hx hr
      have e : shVOK x = shOK x ∧ shV σ.length x = shC σ.length x := by cases x <;> first | exact ⟨rfl, rfl⟩ | exact absurd rfl (hna _)
      rw [e.2]; rw [e.1] at hx
      exact hcell hx hr
    intro x u hx hr
    cases x with
    | agg ws =>
      obtain ⟨us, rfl, hl⟩ := hr.agg_inv
      refine LRel.agg ⟨by simpa using hl.1, fun i y z hy hz => ?_⟩
      rw [List.getElem?_map] at hy
      cases hwi : ws[i]? with
      | none => simp [hwi] at hy
      | some q => simp [hwi] at hy; subst hy; exact hcell (hx q (List.mem_of_getElem? hwi)) (hl.2 i q z hwi hz)
    | _ => exact hsame (by intro ws h; cases h) hx hr
  refine ⟨v, ρ2, _, σ ++ τ, h1, ⟨r, τ, hq, rfl, rfl⟩, hk, ⟨fun id cells hi hn => ?_, fun id cells hi hn => ?_, fun i j c c' hi hj hni hnj hb => ?_, fun id c hi hn => ?_, fun b hb => Nat.lt_of_lt_of_le (hw.gsz b hb) k.size, hw.glob.keeps hk⟩, ?_⟩
  · rcases at_ id cells hi with ⟨hlt, h⟩ | ⟨j, rfl, h⟩
    · rw [r1 id hlt] at hn ⊢
      exact (hw.blk id cells h hn).of (fun x u hx => hx.keeps hw hk) (k.frame _ (owned_lt hw ⟨id, cells, h, hn, rfl⟩) (by rintro ⟨id, c, h, _⟩; simp at h))
    · rw [r2] at hn ⊢
      obtain ⟨c, t, fr, q1, q2, q3, q4, q5⟩ := k2.blk j cells h hn
      exact ⟨c, t, fr, q1, q2, q3, q4, fun i x hx => by
        obtain ⟨u, u1, u2⟩ := q5 i x hx
        exact ⟨u, u1, flat_rel (hfl j cells h x (List.mem_of_getElem? hx)) u2⟩⟩
  · rcases at_ id cells hi with ⟨hlt, h⟩ | ⟨j, rfl, h⟩
    · rw [r1 id hlt] at hn; exact hw.nil id cells h hn
    · rw [r2] at hn; exact k2.nil j cells h hn
  · rcases at_ i c hi with ⟨hlt, h⟩ | ⟨i', rfl, h⟩ <;> rcases at_ j c' hj with ⟨hlt', h'⟩ | ⟨j', rfl, h'⟩
    · rw [r1 i hlt] at hni hb; rw [r1 j hlt'] at hnj hb; exact hw.excl i j c c' h h' hni hnj hb
    · rw [r1 i hlt] at hni hb; rw [r2] at hnj hb
      have a1 := owned_lt hw ⟨i, c, h, hni, rfl⟩
      have a2 := fresh _ ⟨j', c', h', hnj, rfl⟩
      rw [← hb] at a2; omega
    · rw [r2] at hni hb; rw [r1 j hlt'] at hnj hb
      have a1 := owned_lt hw ⟨j, c', h', hnj, rfl⟩
      have a2 := fresh _ ⟨i', c, h, hni, rfl⟩
      rw [hb] at a2; omega
    · rw [r2] at hni hnj hb; rw [r2] at hb
      rw [k2.excl i' j' c c' h h' hni hnj hb]
  · rcases at_ id c hi with ⟨hlt, h⟩ | ⟨j, rfl, h⟩
    · rw [r1 id hlt] at hn ⊢; exact hw.sep id c h hn
    · rw [r2] at hn ⊢; exact k2.sep j c h hn
  · exact hval hvs k3
end Go.Gz
