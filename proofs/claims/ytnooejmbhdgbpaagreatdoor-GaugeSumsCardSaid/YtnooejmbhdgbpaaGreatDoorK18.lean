/- Regions that draw their order: the theorem. -/
import Derived.Test.YtnooejmbhdgbpaaGreatDoorK17
set_option linter.unusedVariables false
set_option linter.unusedSimpArgs false
namespace Go.Gz

section
variable {P : Program} {ms : List MOper} {A : List Nat} {K : Env → AHeap → Prop} {e0 : Env} {N : Nat} {ops : Array Oper} {σ0 : AHeap} {ρ0 : Nat → Place} {w0 : World} {G : Nat → Prop} {Q : Exit → Act → World → Prop}

def lst (l : Array Bool) (i : Nat) : Bool := l.getD i false

theorem lst_set {l : Array Bool} {i : Nat} (hi : i < l.size) : lst (l.setIfInBounds i true) = fun j => j == i || lst l j := by
  funext j
  unfold lst
  by_cases h : j = i
  · subst h; simp [Array.getD, hi]
  · have : (j == i) = false := by simpa using h
    rw [this, Bool.false_or]
    simp only [Array.getD, Array.size_setIfInBounds]
    split
    · simp only [Array.getInternal_eq_getElem]
      rw [Array.getElem_setIfInBounds_ne _ (by omega)]
    · rfl

theorem mask_anc (hm : maskOk ops A = true) {i : Nat} {o : Oper} (ho : ops[i]? = some o) : (∀ d ∈ depsOf o, d < i) ∧ ∀ j, anc A i j = true → ∃ d ∈ depsOf o, j = d ∨ anc A d j = true := by
  unfold maskOk at hm
  have hi : i < ops.size := by have := Array.getElem?_eq_some_iff.1 ho; exact this.1
  have := List.all_eq_true.1 hm i (List.mem_range.2 hi)
  rw [ho] at this
  simp only [Bool.and_eq_true, beq_iff_eq] at this
  refine ⟨fun d hd => by simpa using List.all_eq_true.1 this.1 d hd, fun j hj => ?_⟩
  unfold anc at hj
  rw [this.2] at hj
  rcases or_fold A j _ _ hj with h | h
  · simp at h
  · exact h

theorem ready_mem {l : Array Bool} {i : Nat} (hl : l.size = ops.size) (h : i ∈ Region.ready .any ops l) : i < ops.size ∧ lst l i = false ∧ ∃ o, ops[i]? = some o ∧ ∀ d ∈ depsOf o, lst l d = true := by
  unfold Region.ready at h
  rw [List.mem_filter, List.mem_range] at h
  obtain ⟨h1, h2⟩ := h
  simp only [Bool.and_eq_true, Bool.not_eq_true'] at h2
  obtain ⟨h2, h3⟩ := h2
  have ho : ops[i]? = some ops[i] := by simp [h1]
  refine ⟨h1, ?_, ops[i], ho, fun d hd => ?_⟩
  · unfold lst; simp only [Array.getD, hl, h1, dif_pos] at h2 ⊢; exact h2
  · rw [ho] at h3
    simp only [Option.map_some, Option.getD_some] at h3
    unfold depsOf at hd
    obtain ⟨ed, he, rfl⟩ := List.mem_map.1 hd
    rw [List.mem_filter] at he
    rw [← Array.all_toList] at h3
    have := List.all_eq_true.1 h3 ed he.1
    simp only [he.2, Bool.not_true, Bool.false_or] at this
    exact this

theorem ready_nil {l : Array Bool} (hm : maskOk ops A = true) (hl : l.size = ops.size) (h : Region.ready .any ops l = []) : ∀ i, i < ops.size → lst l i = true := by
  intro i
  induction i using Nat.strongRecOn with
  | _ i ih =>
    intro hi
    cases hh : lst l i with
    | true => rfl
    | false =>
      exfalso
      have ho : ops[i]? = some ops[i] := by simp [hi]
      obtain ⟨h1, _⟩ := mask_anc hm ho
      have : i ∈ Region.ready .any ops l := by
        unfold Region.ready
        rw [List.mem_filter, List.mem_range]
        refine ⟨hi, ?_⟩
        simp only [Bool.and_eq_true, Bool.not_eq_true']
        refine ⟨?_, ?_⟩
        · unfold lst at hh; simp only [Array.getD, hl, hi, dif_pos] at hh ⊢; exact hh
        · rw [ho]
          simp only [Option.map_some, Option.getD_some]
          rw [← Array.all_toList]
          refine List.all_eq_true.2 fun ed he => ?_
          cases hb : Region.binds .any ed with
          | false => rfl
          | true =>
            have hd : ed.on ∈ depsOf ops[i] := List.mem_map.2 ⟨ed, List.mem_filter.2 ⟨he, hb⟩, rfl⟩
            have := ih ed.on (h1 _ hd) (Nat.lt_trans (h1 _ hd) hi)
            simpa [lst] using this
      rw [h] at this; simp at this

def left (n : Nat) (l : Array Bool) : Nat := ((List.range n).filter fun i => !lst l i).length

theorem left_set {l : Array Bool} {i n : Nat} (hi : i < n) (hs : i < l.size) (h : lst l i = false) : left n (l.setIfInBounds i true) < left n l := by
  unfold left
  rw [lst_set hs]
  have hsub : ((List.range n).filter fun j => !(j == i || lst l j)) = (((List.range n).filter fun j => !lst l j).filter fun j => !(j == i)) := by
    rw [List.filter_filter]
    congr 1
    funext j
    rw [Bool.not_or]
  rw [hsub]
  have hmem : i ∈ (List.range n).filter fun j => !lst l j := List.mem_filter.2 ⟨List.mem_range.2 hi, by simp [h]⟩
  exact (List.length_filter_lt_length_iff_exists (p := fun j => !(j == i)) (l := (List.range n).filter fun j => !lst l j)).2 ⟨i, hmem, by simp⟩

theorem left_zero {l : Array Bool} {n : Nat} (h : left n l = 0) : ∀ i, i < n → lst l i = true := by
  intro i hi
  unfold left at h
  have h0 := List.length_eq_zero_iff.1 h
  cases hh : lst l i with
  | true => rfl
  | false =>
    have : i ∈ (List.range n).filter fun j => !lst l j := List.mem_filter.2 ⟨List.mem_range.2 hi, by simp [hh]⟩
    rw [h0] at this; simp at this

theorem quiet_call {m : MOp} (h : isLoud m = false) : callOf m = false := by
  cases m <;> first | rfl | (simp [isLoud, isPure, isRead] at h)

theorem wpOp_mk {e : Env} {σ σ' : AHeap} {m : MOp} {v : AV} {K : AV → AHeap → Prop} (hm : callOf m = false) (h : evOp (Opd.ev e) σ m = some (v, σ')) (hk : K v σ') : Go.Gz.wpOp P m e σ K := by
  unfold Go.Gz.wpOp
  split
  · simp [callOf] at hm
  · simp [callOf] at hm
  · rw [h]; exact hk

theorem wanted_of {o : Oper} {m : MOper} {C : Ctx} {e : Env} {a : Act} {b : Bool} (hg : cGuard N ops o.guard = some m.guard) (he : EnvRel C N e a) (h : GuardIs m e b) : Region.wanted o (yielded ops a.tmps) = b := by
  obtain ⟨g1, g2, g3⟩ := guard_ok hg he
  unfold GuardIs at h
  split at h
  · rename_i hn; rw [h]; exact g1 hn
  · rename_i t want hn
    rcases h with ⟨c, hc, hb⟩ | ⟨⟨c, hc⟩, hb⟩
    · rw [g2 t want c hn hc, hb]
    · rw [g3 t want c hn hc, hb]

theorem any_ok (hs : slotOk ms A = true) (hm : maskOk ops A = true) (hms : cOpers P N ops ops.toList = some ms) (hQ : ∀ e σ ρ a w, K e σ → Here N σ0 ρ0 w0 G e σ ρ a w → Q .normal a w) :
    ∀ (fuel : Nat) (l : Array Bool) (done : List Nat) (t : DTree) (ps : List Pend) (e : Env) (σ : AHeap) (ρ : Nat → Place) (a : Act) (w : World), l.size = ops.size → left ops.size l ≤ fuel →
      (∀ i, lst l i = true → ∀ j, j < ms.length → anc A i j = true → lst l j = true) → DI P ms A K e0 (lst l) done t ps e σ → headOk t → Here N σ0 ρ0 w0 G (mixE ms done (lst l) e e0) σ ρ a w →
      wpAny P .any ops Q fuel l a w := by
  obtain ⟨hlen, hco⟩ := cOpers_some hms
  have hn : ms.length = ops.size := by simpa using hlen.symm
  -- the end
  have fin : ∀ (l : Array Bool) (done : List Nat) (t : DTree) (ps : List Pend) (e : Env) (σ : AHeap) (ρ : Nat → Place) (a : Act) (w : World), (∀ i, i < ops.size → lst l i = true) → DI P ms A K e0 (lst l) done t ps e σ → headOk t →
      Here N σ0 ρ0 w0 G (mixE ms done (lst l) e e0) σ ρ a w → Q .normal a w := by
    intro l done t ps e σ ρ a w hall hdi hh here
    have hmix : mixE ms done (lst l) e e0 = e := by
      funext s
      unfold mixE
      rw [if_neg]
      intro h
      obtain ⟨j, hj, hj2⟩ := List.any_eq_true.1 h
      rw [hall j (by rw [← hn]; exact hdi.dlt j hj)] at hj2
      simp at hj2
    rw [hmix] at here
    cases t with
    | leaf => exact hQ e σ ρ a w hdi.wp here
    | stop => exact hh.elim
    | quiet _ _ => exact hh.elim
    | loud i again t1 other =>
      exfalso
      have ht := hdi.tree
      simp only [treeOk, Bool.and_eq_true, decide_eq_true_eq, Bool.not_eq_true', List.contains_eq_mem, decide_eq_false_iff_not] at ht
      obtain ⟨⟨⟨⟨⟨⟨⟨h1, h2⟩, _⟩, _⟩, _⟩, _⟩, _⟩, _⟩ := ht
      exact h2 (hdi.sub i (hall i (by rw [← hn]; exact h1)))
  intro fuel
  induction fuel with
  | zero =>
    intro l done t ps e σ ρ a w hsz hf hcl hdi hh here
    have hall := left_zero (Nat.le_zero.1 hf)
    refine ⟨?_, fin l done t ps e σ ρ a w hall hdi hh here⟩
    cases hr : Region.ready .any ops l with
    | nil => rfl
    | cons i r =>
      have := ready_mem hsz (show i ∈ Region.ready .any ops l by rw [hr]; simp)
      rw [hall i this.1] at this; simp at this
  | succ fuel ih =>
    intro l done t ps e σ ρ a w hsz hf hcl hdi hh here
    refine ⟨fun hr => fin l done t ps e σ ρ a w (ready_nil hm hsz hr) hdi hh here, fun i hi => ?_⟩
    obtain ⟨hlt, hil, o, ho, hdeps⟩ := ready_mem hsz hi
    obtain ⟨_, hanc⟩ := mask_anc hm ho
    have hlm : i < ms.length := by rw [hn]; exact hlt
    obtain ⟨m, hmi⟩ : ∃ m, ms[i]? = some m := ⟨ms[i], List.getElem?_eq_getElem hlm⟩
    have hcm := hco i o m (by simpa using ho) hmi
    obtain ⟨c1, c2, c3⟩ := cOper_some hcm
    have hAl : ∀ j, j < ms.length → anc A i j = true → lst l j = true := by
      intro j hj ha
      obtain ⟨d, hd, hjd⟩ := hanc j ha
      rcases hjd with rfl | h
      · exact hdeps _ hd
      · exact hcl d (hdeps d hd) j hj h
    have hsz' : (l.setIfInBounds i true).size = ops.size := by simpa using hsz
    have hleft : left ops.size (l.setIfInBounds i true) ≤ fuel := by
      have := left_set hlt (by rw [hsz]; exact hlt) hil
      omega
    have hlst := lst_set (l := l) (i := i) (by rw [hsz]; exact hlt)
    have hcl' : ∀ k, lst (l.setIfInBounds i true) k = true → ∀ j, j < ms.length → anc A k j = true → lst (l.setIfInBounds i true) j = true := by
      intro k hk j hj ha
      rw [hlst] at hk ⊢
      simp only [Bool.or_eq_true, beq_iff_eq] at hk ⊢
      rcases hk with rfl | hk
      · exact .inr (hAl j hj ha)
      · exact .inr (hcl k hk j hj ha)
    -- what the model asks of the operation
    have ask : ∀ (b : Bool) (Ko : AV → AHeap → Prop) (next : Act → World → Prop), GuardIs m (mixE ms done (lst l) e e0) b → (b = true → Go.Gz.wpOp P m.op (mixE ms done (lst l) e e0) σ Ko) →
        (b = true → ∀ x σ' ρ' v w', Ko x σ' → Keeps σ ρ w σ' ρ' w' → WRel σ' ρ' w' G → VRel (ctx σ' ρ' w' G) x v → next (a.put o.dst v) w') → (b = false → next (a.put o.dst undef) w) → Go.wpOp P ops Q i next a w := by
      intro b Ko next hg hk h1 h2
      unfold Go.wpOp
      simp only [ho]
      have := wanted_of c2 here.env hg
      cases b with
      | true =>
        rw [if_pos this]
        left
        exact oper_ok c1 here (hk rfl) (h1 rfl)
      | false =>
        rw [if_neg (by rw [this]; simp)]
        exact h2 rfl
    by_cases hid : i ∈ done
    · -- the tree has it behind it
      have hagree := mixE_eq_view (e0 := e0) hs hmi hil hid hAl (fun j hj hjl hja => by rw [hcl j hjl i hlm hja] at hil; cases hil) hdi.fresh
      have hmixl := mixE_list (listed := lst l) (e := e) (e0 := e0) hs hmi hil hid
      have hdi' : DI P ms A K e0 (lst (l.setIfInBounds i true)) done t ps e σ := by
        refine ⟨hdi.dlt, fun j hj => ?_, fun j hj hl => ?_, hdi.clD, hdi.fresh, fun q hq hql => ?_, hdi.tree, hdi.wp⟩
        · rw [hlst] at hj
          simp only [Bool.or_eq_true, beq_iff_eq] at hj
          rcases hj with rfl | hj
          · exact hid
          · exact hdi.sub j hj
        · rw [hlst]; simp [hdi.louds j hj hl]
        · rw [hlst] at hql
          simp only [Bool.or_eq_false_iff] at hql
          exact hdi.qv q hq hql.2
      obtain ⟨m', hmi', hq⟩ := hdi.qv i hid hil
      rw [hmi] at hmi'; cases hmi'
      have hnl : loudAt ms i = false := by
        cases h : loudAt ms i with
        | false => rfl
        | true => rw [hdi.louds i hid h] at hil; cases hil
      have hcall := quiet_call (by simpa [loudAt, hmi] using hnl : isLoud m.op = false)
      have put_eq : ∀ v, (∀ d, m.dst = some d → e d = v) → putD (mixE ms done (lst l) e e0) o.dst v = mixE ms done (lst (l.setIfInBounds i true)) e e0 := by
        intro v hv
        rw [hlst, hmixl, c3]
        funext s
        unfold putD
        rw [c3] at hv
        cases hd : o.dst with
        | none => simp
        | some d =>
          simp only
          by_cases hsd : s = d
          · subst hsd; simp [hv s hd]
          · rw [if_neg hsd, if_neg (by simp; exact fun e => hsd e.symm)]
      rcases hq with ⟨v, hg, hev, hv, _⟩ | ⟨hg, hv⟩
      · refine ask true (fun x σ' => x = v ∧ σ' = σ) _ (guardIs_congr hagree hg) (fun _ => wpOp_mk hcall (by rw [← ev_congr σ (fun s hs' => hagree s (by simp [slotsG, hs']))]; exact hev) ⟨rfl, rfl⟩) (fun _ x σ' ρ' u w' hx k1 k2 k3 => ?_) (fun h => by cases h)
        obtain ⟨rfl, rfl⟩ := hx
        have h' := here.step o.dst k1 k2 k3
        rw [put_eq x hv] at h'
        exact ih _ done t ps e σ' ρ' _ w' hsz' hleft hcl' hdi' hh h'
      · refine ask false (fun _ _ => True) _ (guardIs_congr hagree hg) (fun h => by cases h) (fun h => by cases h) (fun _ => ?_)
        have h' := here.step o.dst (Keeps.refl _ _ _) here.rel (und_rel _)
        rw [put_eq .und hv] at h'
        exact ih _ done t ps e σ ρ _ w hsz' hleft hcl' hdi' hh h'
    · -- the next one of those that do not leave the heap alone
      have ht := hdi.tree
      have halt : i ∈ alts t := by
        cases t with
        | leaf =>
          exfalso
          simp only [treeOk, Bool.and_eq_true, List.contains_eq_mem] at ht
          have := List.all_eq_true.1 ht.2 i (List.mem_range.2 hlm)
          exact hid (by simpa using this)
        | stop => exact hh.elim
        | quiet _ _ => exact hh.elim
        | loud k again t1 other =>
          simp only [treeOk, Bool.and_eq_true, decide_eq_true_eq, Bool.not_eq_true', List.contains_eq_mem, decide_eq_false_iff_not, Bool.false_or] at ht
          obtain ⟨_, h1, h2⟩ := ht
          have hloud : loudAt ms i = true := by
            cases h : loudAt ms i with
            | true => rfl
            | false =>
              exfalso
              have := List.all_eq_true.1 h2 i (List.mem_range.2 hlm)
              simp only [h, hid, decide_false, Bool.or_self, Bool.false_or] at this
              obtain ⟨j, hj, hj2⟩ := List.any_eq_true.1 this
              simp only [Bool.and_eq_true, Bool.not_eq_true', decide_eq_false_iff_not] at hj2
              exact hj2.1.2 (hdi.sub j (hAl j (List.mem_range.1 hj) hj2.2))
          have := List.all_eq_true.1 h1 i (List.mem_range.2 hlm)
          have hall : ((List.range ms.length).all fun j => !anc A i j || decide (j ∈ done)) = true := by
            refine List.all_eq_true.2 fun j hj => ?_
            cases ha : anc A i j with
            | false => rfl
            | true => simpa using hdi.sub j (hAl j (List.mem_range.1 hj) ha)
          rw [hloud, hall] at this
          simpa [hid] using this
      obtain ⟨again, t1, m', p1, p2, p3, p4, p5, p6, p7, p8⟩ := pick_alt halt ht hdi.wp
      rw [hmi] at p3; cases p3
      have hagree := mixE_eq_e (e0 := e0) (e := e) hs hmi hid hAl hdi.clD
      -- the tree goes on
      have go : ∀ (x : AV) (σ' : AHeap) (ρ' : Nat → Place) (a' : Act) (w' : World), wpTree P ms K t1 ps (putD e m.dst x) σ' → (∀ q ∈ done, lst l q = false → QVal ms A e0 ps (putD e m.dst x) σ' q) →
          Here N σ0 ρ0 w0 G (putD (mixE ms done (lst l) e e0) o.dst x) σ' ρ' a' w' → wpAny P .any ops Q fuel (l.setIfInBounds i true) a' w' := by
        intro x σ' ρ' a' w' hwt hqv here'
        have hdi1 : DI P ms A K e0 (lst (l.setIfInBounds i true)) (i :: done) t1 ps (putD e m.dst x) σ' := by
          refine ⟨fun j hj => ?_, fun j hj => ?_, fun j hj hl => ?_, fun k hk j hj ha => ?_, fresh_put hmi x hdi.fresh, fun q hq hql => ?_, p7, hwt⟩
          · rcases List.mem_cons.1 hj with rfl | hj
            · exact hlm
            · exact hdi.dlt j hj
          · rw [hlst] at hj
            simp only [Bool.or_eq_true, beq_iff_eq] at hj
            rcases hj with rfl | hj
            · simp
            · simp [hdi.sub j hj]
          · rw [hlst]
            rcases List.mem_cons.1 hj with rfl | hj
            · simp
            · simp [hdi.louds j hj hl]
          · rcases List.mem_cons.1 hk with rfl | hk
            · exact List.mem_cons_of_mem _ (p5 j hj ha)
            · exact List.mem_cons_of_mem _ (hdi.clD k hk j hj ha)
          · rw [hlst] at hql
            simp only [Bool.or_eq_false_iff, beq_eq_false_iff_ne] at hql
            rcases List.mem_cons.1 hq with rfl | hq
            · exact absurd rfl hql.1
            · exact hqv q hq hql.2
        obtain ⟨done', t', ps', e', g1, g2, g3, g4, g5⟩ := advance hs t1 hdi1 hdi1.sub
        have hmix : mixE ms done' (lst (l.setIfInBounds i true)) e' e0 = putD (mixE ms done (lst l) e e0) o.dst x := by
          funext s
          have hnew : ∀ j ∈ done', j ∉ (i :: done) → dstB ms j s = true → m.dst ≠ some s ∧ ∀ k ∈ done, dstB ms k s = false := by
            intro j hj hjd hb
            obtain ⟨b, hb1, hb2⟩ := dstB_some hb
            refine ⟨(slotOk_at hs hmi hb1 (fun e => hjd (by simp [e])) hb2).1, fun k hk => ?_⟩
            cases hkb : dstB ms k s with
            | false => rfl
            | true =>
              obtain ⟨b', hb1', hb2'⟩ := dstB_some hkb
              exact absurd hb2' (slotOk_at hs hb1' hb1 (fun e => hjd (by simp [← e, hk])) hb2).1
          have hold : m.dst = some s → ∀ k ∈ done, dstB ms k s = false := by
            intro hd k hk
            cases hkb : dstB ms k s with
            | false => rfl
            | true =>
              obtain ⟨b', hb1', hb2'⟩ := dstB_some hkb
              exact absurd hb2' (slotOk_at hs hb1' hmi (fun e => hid (e ▸ hk)) hd).1
          unfold mixE
          rw [← c3]
          by_cases hd : m.dst = some s
          · have hno : ¬ (done'.any fun j => !lst (l.setIfInBounds i true) j && dstB ms j s) = true := by
              intro h
              obtain ⟨j, hj, hj2⟩ := List.any_eq_true.1 h
              simp only [Bool.and_eq_true] at hj2
              by_cases hji : j = i
              · subst hji; rw [hlst] at hj2; simp at hj2
              · by_cases hjd : j ∈ done
                · rw [hold hd j hjd] at hj2; simp at hj2
                · exact (hnew j hj (by simp [hji, hjd]) hj2.2).1 hd
            rw [if_neg hno, g5 s (fun j hj hjd => by
              cases hb : dstB ms j s with
              | false => rfl
              | true => exact absurd hd (hnew j hj hjd hb).1)]
            simp [putD, hd]
          · have hput : ∀ (f : Env), putD f m.dst x s = f s := by
              intro f
              unfold putD
              cases hdd : m.dst with
              | none => rfl
              | some d => simp only; rw [if_neg (fun e => hd (by rw [hdd, e]))]
            rw [hput]
            by_cases h1 : (done.any fun j => !lst l j && dstB ms j s) = true
            · rw [if_pos h1, if_pos]
              obtain ⟨j, hj, hj2⟩ := List.any_eq_true.1 h1
              simp only [Bool.and_eq_true, Bool.not_eq_true'] at hj2
              refine List.any_eq_true.2 ⟨j, g3 j (by simp [hj]), ?_⟩
              rw [hlst]
              have hji : (j == i) = false := by simp; intro e; subst e; exact hid hj
              simp [hji, hj2]
            · rw [if_neg h1]
              by_cases h2 : (done'.any fun j => !lst (l.setIfInBounds i true) j && dstB ms j s) = true
              · rw [if_pos h2]
                obtain ⟨j, hj, hj2⟩ := List.any_eq_true.1 h2
                rw [hlst] at hj2
                simp only [Bool.and_eq_true, Bool.not_eq_true', Bool.or_eq_false_iff, beq_eq_false_iff_ne] at hj2
                have hjd : j ∉ i :: done := by
                  intro hmem
                  rcases List.mem_cons.1 hmem with e | hmem
                  · exact hj2.1.1 e
                  · exact h1 (List.any_eq_true.2 ⟨j, hmem, by simp [hj2.1.2, hj2.2]⟩)
                exact (hdi.fresh s (hnew j hj hjd hj2.2).2).symm
              · rw [if_neg h2, g5 s (fun j hj hjd => by
                  cases hb : dstB ms j s with
                  | false => rfl
                  | true => exact absurd (List.any_eq_true.2 ⟨j, hj, by simp [g4 j hj hjd, hb]⟩) h2), hput]
        rw [← hmix] at here'
        refine ih _ done' t' ps' e' σ' ρ' a' w' hsz' hleft hcl' g1 ?_ here'
        rcases g2 with rfl | ⟨_, _, _, _, rfl⟩ <;> trivial
      have hqread : ∀ q ∈ done, lst l q = false → readAt ms q = true → q ∈ again := by
        intro q hq hql hr
        refine p6 q (hdi.dlt q hq) hq hr ?_
        cases ha : anc A i q with
        | false => rfl
        | true => rw [hAl q (hdi.dlt q hq) ha] at hql; cases hql
      rcases wpG_some p8 with ⟨hg, hk⟩ | ⟨hg, hk⟩
      · refine ask true _ _ (guardIs_congr hagree hg) (fun _ => wpOp_congr (fun s hs' => hagree s (by simp [slotsG, hs'])) hk) (fun _ x σ' ρ' u w' hx k1 k2 k3 => ?_) (fun h => by cases h)
        refine go x σ' ρ' _ w' hx.2 (fun q hq hql => ?_) (here.step o.dst k1 k2 k3)
        -- what was seen is seen still
        have hq0 := qval_put hs hmi hid x (fun p hp => hp) hq (fun j hj ha => hdi.clD q hq j hj ha) (hdi.qv q hq hql)
        obtain ⟨b, hb, hq0⟩ := hq0
        refine ⟨b, hb, ?_⟩
        rcases hq0 with ⟨v, v1, v2, v3, v4⟩ | h
        · refine .inl ⟨v, v1, ?_, v3, v4⟩
          have hbq : isLoud b.op = false := by
            cases h : isLoud b.op with
            | false => rfl
            | true => rw [hdi.louds q hq (by simp [loudAt, hb, h])] at hql; cases hql
          simp only [isLoud, Bool.not_eq_false', Bool.or_eq_true] at hbq
          rcases hbq with hp | hr
          · exact (pure_ev hp v2).2 σ'
          · obtain ⟨p, q1, q2, q3, q4⟩ := v4 hr
            have := hx.1 p q1 (by rw [q2]; exact hqread q hq hql (by simp [readAt, hb, hr]))
            rw [q3, q4, fix_ev hr] at this
            exact this
        · exact .inr h
      · refine ask false (fun _ _ => True) _ (guardIs_congr hagree hg) (fun h => by cases h) (fun h => by cases h) (fun _ => ?_)
        exact go .und σ ρ _ w hk (fun q hq hql => qval_put hs hmi hid .und (fun p hp => hp) hq (fun j hj ha => hdi.clD q hq j hj ha) (hdi.qv q hq hql)) (here.step o.dst (Keeps.refl _ _ _) here.rel (und_rel _))

end
end Go.Gz
