/- What a kind does not have makes a note of it that may not be. No condition. -/
import Derived.Test.YtndlgmciplckjaaNRefMay2
import Derived.Test.YtndlgmciplckjaaNPackN
set_option linter.unusedVariables false
set_option linter.unusedSimpArgs false
namespace Go.Proofs.Ytndlgmciplckjaa.note
open Go.ChangeShapes Go.WideShapes Go.ChangeAt Go.RowKit Go.Gz
set_option maxHeartbeats 4000000
set_option maxRecDepth 10000
theorem may_parts {n : NoteV} (h : mayB n = true) : headB n = true ∧ tickB n = true ∧ asksB n = true ∧ spansB n = true ∧ mapsB n = true := by
  simp only [mayB, Bool.and_eq_true] at h
  exact ⟨h.1, h.2.1, h.2.2.1, h.2.2.2.1, h.2.2.2.2⟩
theorem head_parts {n : NoteV} (h : headB n = true) : (!decide (n.kind < 1)) = true ∧ (!decide (12 < n.kind)) = true ∧ partyB n.from_ = true ∧ partyB n.to = true ∧ (!decide (n.from_ = n.to)) = true ∧ numB n.epoch = true ∧ numB n.tick = true := by
  simp only [headB, Bool.and_eq_true] at h
  exact ⟨h.1, h.2.1, h.2.2.1, h.2.2.2.1, h.2.2.2.2.1, h.2.2.2.2.2.1, h.2.2.2.2.2.2⟩
theorem kind_range {n : NoteV} (h : mayB n = true) : n.kind = 1 ∨ n.kind = 2 ∨ n.kind = 3 ∨ n.kind = 4 ∨ n.kind = 5 ∨ n.kind = 6 ∨ n.kind = 7 ∨ n.kind = 8 ∨ n.kind = 9 ∨ n.kind = 10 ∨ n.kind = 11 ∨ n.kind = 12 := by
  obtain ⟨h1, h2, _⟩ := may_kind h
  exact kinds h1 h2
theorem m_tick {n : NoteV} (h : mayB n = true) : mayB { n with tick := 5 } = (decide (n.kind = 5) || decide (n.kind = 6)) := by
  obtain ⟨hh, ht, ha, hs, hm⟩ := may_parts h
  obtain ⟨h1, h2, h3, h4, h5, h6, h7⟩ := head_parts hh
  have hd : headB { n with tick := 5 } = true := by
    show (!decide (n.kind < 1) && (!decide (12 < n.kind) && (partyB n.from_ && (partyB n.to && (!decide (n.from_ = n.to) && (numB n.epoch && numB 5)))))) = true
    rw [h1, h2, h3, h4, h5, h6]; rfl
  show (headB { n with tick := 5 } && ((decide ((5 : Int) = 0) || [5, 6].contains n.kind) && (asksB n && (spansB n && mapsB n)))) = _
  rw [hd, ha, hs, hm]
  rcases kind_range h with k | k | k | k | k | k | k | k | k | k | k | k <;> rw [k] <;> rfl
theorem m_epoch {n : NoteV} (h : mayB n = true) : mayB { n with epoch := 7 } = decide (7 ≤ n.kind) := by
  obtain ⟨hh, ht, ha, hs, hm⟩ := may_parts h
  obtain ⟨h1, h2, h3, h4, h5, h6, h7⟩ := head_parts hh
  have hd : headB { n with epoch := 7 } = true := by
    show (!decide (n.kind < 1) && (!decide (12 < n.kind) && (partyB n.from_ && (partyB n.to && (!decide (n.from_ = n.to) && (numB 7 && numB n.tick)))))) = true
    rw [h1, h2, h3, h4, h5, h7]; rfl
  simp only [spansB, Bool.and_eq_true] at hs
  show (headB { n with epoch := 7 } && (tickB n && (asksB n && ((n.last.all okLa && (rowsB n && ((decide ((7 : Int) = 0) && (decide (n.sf = []) && decide (n.st = []))) || [7, 11, 10, 12, 8, 9].contains n.kind))) && mapsB n)))) = _
  rw [hd, ht, ha, hs.1, hs.2.1, hm]
  rcases kind_range h with k | k | k | k | k | k | k | k | k | k | k | k <;> rw [k] <;> rfl
theorem m_ask {n : NoteV} (h : mayB n = true) : mayB { n with ask := ⟨1, 0, 0, [], [], [], [], 0⟩ } = decide (n.kind = 1) := by
  obtain ⟨hh, ht, ha, hs, hm⟩ := may_parts h
  simp only [asksB, Bool.and_eq_true] at ha
  have hb : AskV.bad ⟨1, 0, 0, [], [], [], [], 0⟩ = false := by decide
  show (headB n && (tickB n && ((!AskV.bad ⟨1, 0, 0, [], [], [], [], 0⟩ && !n.rep.bad && (decide (n.kind = 1) || noAskB ⟨1, 0, 0, [], [], [], [], 0⟩) && (decide (n.kind = 2) || noRepB n.rep)) && (spansB n && mapsB n)))) = _
  rw [hh, ht, hb, ha.1.1.2, ha.2, hs, hm]
  cases decide (n.kind = 1) <;> rfl
theorem m_rep {n : NoteV} (h : mayB n = true) : mayB { n with rep := ⟨0, 0, 0, true, [], [], [], false⟩ } = decide (n.kind = 2) := by
  obtain ⟨hh, ht, ha, hs, hm⟩ := may_parts h
  simp only [asksB, Bool.and_eq_true] at ha
  have hb : RepV.bad ⟨0, 0, 0, true, [], [], [], false⟩ = false := by decide
  show (headB n && (tickB n && ((!n.ask.bad && !RepV.bad ⟨0, 0, 0, true, [], [], [], false⟩ && (decide (n.kind = 1) || noAskB n.ask) && (decide (n.kind = 2) || noRepB ⟨0, 0, 0, true, [], [], [], false⟩)) && (spansB n && mapsB n)))) = _
  rw [hh, ht, hb, ha.1.1.1, ha.1.2, hs, hm]
  cases decide (n.kind = 2) <;> rfl
theorem m_list {n : NoteV} (h : mayB n = true) : mayB { n with l := [([97], [])] } = (decide (n.kind = 8) || decide (n.kind = 9)) := by
  obtain ⟨hh, ht, ha, hs, hm⟩ := may_parts h
  simp only [spansB, Bool.and_eq_true] at hs
  show (headB n && (tickB n && (asksB n && ((n.last.all okLa && (((decide ((1 : Int) = 0) && decide ((n.last.length : Int) = 0)) || [8, 9].contains n.kind) && spanB n)) && mapsB n)))) = _
  rw [hh, ht, ha, hs.1, hs.2.2, hm]
  rcases kind_range h with k | k | k | k | k | k | k | k | k | k | k | k <;> rw [k] <;> rfl
theorem m_map {n : NoteV} (h : mayB n = true) : mayB { n with aep := 1, sh := [⟨[], [], 1, 1⟩] } = (decide (n.kind = 4) || decide (n.kind = 6)) := by
  obtain ⟨hh, ht, ha, hs, hm⟩ := may_parts h
  have h1 : (atlasB 1 [⟨[], [], 1, 1⟩] && numB 1) = true := by decide
  have h2 : (decide ((1 : Int) = 0) && decide ((([⟨[], [], 1, 1⟩] : List ShV).length : Int) = 0)) = false := by decide
  show (headB n && (tickB n && (asksB n && (spansB n && (if [4, 6].contains n.kind then atlasB 1 [⟨[], [], 1, 1⟩] && numB 1 else decide ((1 : Int) = 0) && decide ((([⟨[], [], 1, 1⟩] : List ShV).length : Int) = 0)))))) = _
  rw [hh, ht, ha, hs, h1, h2]
  rcases kind_range h with k | k | k | k | k | k | k | k | k | k | k | k <;> rw [k] <;> rfl
theorem m_kind {n : NoteV} {k : Int} (h : decide (1 ≤ k) = false ∨ decide (k ≤ 12) = false) : mayB { n with kind := k } = false := by
  have : headB { n with kind := k } = false := by
    rw [Bool.eq_false_iff]; intro hh
    obtain ⟨h1, h2, _⟩ := head_parts hh
    simp only [Bool.not_eq_true', decide_eq_false_iff_not] at h1 h2
    rcases h with h | h <;> have := of_decide_eq_false h <;> omega
  simp only [mayB, this, Bool.false_and]
/-! How great they are. -/
theorem sz_tick {n : NoteV} (h : n.sz) (t : Int) : NoteV.sz { n with tick := t } := ⟨h.ask, h.rep, h.span, h.l, h.last, h.sh, h.recz, h.la, h.shs, h.recs, h.las, h.shsum⟩
theorem sz_epoch {n : NoteV} (h : n.sz) (t : Int) : NoteV.sz { n with epoch := t } := ⟨h.ask, h.rep, h.span, h.l, h.last, h.sh, h.recz, h.la, h.shs, h.recs, h.las, h.shsum⟩
theorem sz_kind {n : NoteV} (h : n.sz) (t : Int) : NoteV.sz { n with kind := t } := ⟨h.ask, h.rep, h.span, h.l, h.last, h.sh, h.recz, h.la, h.shs, h.recs, h.las, h.shsum⟩
theorem sz_ask {n : NoteV} (h : n.sz) : NoteV.sz { n with ask := ⟨1, 0, 0, [], [], [], [], 0⟩ } := ⟨by show total (AskV.texts ⟨1, 0, 0, [], [], [], [], 0⟩) ≤ _; decide, h.rep, h.span, h.l, h.last, h.sh, h.recz, h.la, h.shs, h.recs, h.las, h.shsum⟩
theorem sz_rep {n : NoteV} (h : n.sz) : NoteV.sz { n with rep := ⟨0, 0, 0, true, [], [], [], false⟩ } := ⟨h.ask, by show (RepV.bytes ⟨0, 0, 0, true, [], [], [], false⟩).length ≤ _; decide, h.span, h.l, h.last, h.sh, h.recz, h.la, h.shs, h.recs, h.las, h.shsum⟩
theorem sz_list {n : NoteV} (h : n.sz) : NoteV.sz { n with l := [([97], [])] } := ⟨h.ask, h.rep, h.span, by show 1 ≤ _; decide, h.last, h.sh, by intro x hx; simp at hx; subst hx; decide, h.la, h.shs, by show (List.flatMap (fun x => txt (txt2 x)) [([97], [])]).length ≤ _; decide, h.las, h.shsum⟩
theorem sz_map {n : NoteV} (h : n.sz) : NoteV.sz { n with aep := 1, sh := [⟨[], [], 1, 1⟩] } := ⟨h.ask, h.rep, h.span, h.l, h.last, by show 1 ≤ _; decide, h.recz, h.la, by intro x hx; simp at hx; subst hx; decide, h.recs, h.las, by show (List.flatMap (fun x => txt (ShV.bytes x)) [⟨[], [], 1, 1⟩]).length ≤ _; decide⟩
/-! Calls. -/
theorem giveA {P : Program} {f : FuncId} {cs cs1 : List AV} {σ : AHeap} (d : Nat) {Q : AV → Prop} (hl : cs.length = cs1.length) (hg : ∀ (i : Nat) (x y : AV), cs[i]? = some x → cs1[i]? = some y → Given σ d x y)
    (h : Tri P f [.agg cs1] [] fun r _ => r.pure = true ∧ Q r) : Tri P f [.agg cs] σ fun r σ' => Q r ∧ σ' = hkill σ d := by
  refine ⟨h.1, fun ρ w G args' hw hargs => ?_⟩
  have hp : pureL [AV.agg cs1] = true := by
    have : pureL cs1 = true := pureL_of fun y hy => by
      obtain ⟨i, hi⟩ := List.getElem?_of_mem hy
      have hlt : i < cs.length := by rw [hl]; exact idx_lt hi
      exact given_pure (hg i cs[i] y (List.getElem?_eq_getElem hlt) hi)
    simp only [pureL, AV.pure, this, Bool.and_self]
  have hk := kill_keeps σ ρ w d
  refine ((Tri.pureD hp h (hkill σ d)).2 ρ w G args' (kill_wrel hw d) ⟨hargs.1, fun i y v hy hv => ?_⟩).mono ?_
  · match i with
    | 0 =>
      simp at hy; subst hy
      obtain ⟨us, rfl, hu⟩ := (hargs.2 0 _ v rfl hv).agg_inv
      refine LRel.agg ⟨by rw [← hl]; exact hu.1, fun j z u hz hu' => ?_⟩
      have hlt : j < cs.length := by rw [hl]; exact idx_lt hz
      exact given_rel hw (hg j cs[j] z (List.getElem?_eq_getElem hlt) hz) (hu.2 j _ u (List.getElem?_eq_getElem hlt) hu')
    | n + 1 => simp at hy
  · rintro e w' ⟨v, ρ', r, σ', h1, h2, k1, k2, k3⟩
    exact ⟨v, ρ', r, σ', h1, h2, hk.trans k1, k2, k3⟩
def mayKD (args : List AV) (σ : AHeap) (K : AV → AHeap → Prop) : Prop :=
  (∃ (cs : List AV) (n : NoteV), args = [.agg cs] ∧ cs.map nz1 = n.cells ∧ n.sz ∧ K (.bool (mayB n)) σ) ∨
  (∃ (d : Nat) (cs : List AV) (n : NoteV), args = [.agg cs] ∧ cs.length = n.cells.length ∧ (∀ (i : Nat) (x y : AV), cs[i]? = some x → n.cells[i]? = some y → Given σ d x y) ∧ n.sz ∧ K (.bool (mayB n)) (hkill σ d))
theorem mayKD_ok (args : List AV) (σ : AHeap) (K : AV → AHeap → Prop) (h : mayKD args σ K) : Tri Try.prog 13 args σ K := by
  rcases h with ⟨cs, n, rfl, hc, hs, h⟩ | ⟨d, cs, n, rfl, hl, hg, hs, h⟩
  · refine Tri.nz ?_
    rw [hc]
    exact mayD_ok _ _ _ ⟨n, rfl, hs, h⟩
  · exact (giveA d hl hg (may_ok n hs)).mono fun r σ' hr => by rw [hr.1, hr.2]; exact h
end Go.Proofs.Ytndlgmciplckjaa.note
