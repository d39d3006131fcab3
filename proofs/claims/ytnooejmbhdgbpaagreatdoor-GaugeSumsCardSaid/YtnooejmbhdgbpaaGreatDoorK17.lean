/- Regions that draw their order: whatever order is drawn, it goes as the tree says. -/
import Derived.Test.YtnooejmbhdgbpaaGreatDoorK16
set_option linter.unusedVariables false
set_option linter.unusedSimpArgs false
namespace Go.Gz

def anc (A : List Nat) (i j : Nat) : Bool := (A.getD i 0).testBit j
def isLoud (m : MOp) : Bool := !(isPure m || isRead m)
def dstB (ms : List MOper) (j t : Nat) : Bool :=
  match ms[j]? with
  | some o => o.dst == some t
  | none => false

def maskOk (ops : Array Oper) (A : List Nat) : Bool :=
  (List.range ops.size).all fun i => match ops[i]? with
    | some o => (depsOf o).all (fun d => decide (d < i)) && A.getD i 0 == (depsOf o).foldl (fun s d => s ||| 2 ^ d ||| A.getD d 0) 0
    | none => false

def slotOk (ms : List MOper) (A : List Nat) : Bool :=
  (List.range ms.length).all fun i => (List.range ms.length).all fun j => i == j || match ms[i]?, ms[j]? with
    | some a, some b => (match b.dst with
      | some t => a.dst != some t && (!(slotsG a).contains t || anc A i j || anc A j i)
      | none => true)
    | _, _ => false

def alts : DTree → List Nat
  | .loud i _ _ other => i :: alts other
  | _ => []

def loudAt (ms : List MOper) (i : Nat) : Bool :=
  match ms[i]? with
  | some o => isLoud o.op
  | none => true

def readAt (ms : List MOper) (i : Nat) : Bool :=
  match ms[i]? with
  | some o => isRead o.op
  | none => false

def treeOk (ms : List MOper) (A : List Nat) : DTree → List Nat → Bool → Bool
  | .leaf, done, inA => !inA && (List.range ms.length).all (fun i => done.contains i)
  | .stop, _, inA => inA
  | .quiet i t, done, inA => !inA && decide (i < ms.length) && !done.contains i && !loudAt ms i && (List.range ms.length).all (fun j => !anc A i j || done.contains j) && treeOk ms A t (i :: done) false
  | .loud i again t other, done, inA => decide (i < ms.length) && !done.contains i && loudAt ms i && (List.range ms.length).all (fun j => !anc A i j || done.contains j) &&
      (List.range ms.length).all (fun j => !(done.contains j && readAt ms j && !anc A i j) || again.contains j) && treeOk ms A t (i :: done) false && treeOk ms A other done true &&
      (inA || ((List.range ms.length).all (fun l => !(loudAt ms l && !done.contains l && (List.range ms.length).all (fun j => !anc A l j || done.contains j)) || (alts (.loud i again t other)).contains l) &&
        (List.range ms.length).all (fun q => loudAt ms q || done.contains q || (List.range ms.length).any fun l => loudAt ms l && !done.contains l && anc A q l)))

theorem or_fold (A : List Nat) (j : Nat) : ∀ (l : List Nat) (s : Nat), (l.foldl (fun s d => s ||| 2 ^ d ||| A.getD d 0) s).testBit j = true → s.testBit j = true ∨ ∃ d ∈ l, j = d ∨ anc A d j = true
  | [], s, h => .inl h
  | d :: l, s, h => by
    rw [List.foldl_cons] at h
    rcases or_fold A j l _ h with h | ⟨d', h1, h2⟩
    · rw [Nat.testBit_or, Nat.testBit_or, Nat.testBit_two_pow] at h
      simp only [Bool.or_eq_true, decide_eq_true_eq] at h
      rcases h with (h | h) | h
      · exact .inl h
      · exact .inr ⟨d, by simp, .inl h.symm⟩
      · exact .inr ⟨d, by simp, .inr h⟩
    · exact .inr ⟨d', by simp [h1], h2⟩

def GuardIs (o : MOper) (e : Env) (b : Bool) : Prop :=
  match o.guard with
  | none => b = true
  | some (t, want) => (∃ c, e t = .bool c ∧ decide (c = want) = b) ∨ ((∃ vs, e t = .tuple vs) ∧ b = false)

theorem guardIs_congr {o : MOper} {e e' : Env} {b : Bool} (h : ∀ t ∈ slotsG o, e t = e' t) (hg : GuardIs o e b) : GuardIs o e' b := by
  unfold GuardIs at *
  split at hg
  · exact hg
  · rename_i t want hgd
    rcases hg with ⟨c, h1, h2⟩ | ⟨⟨c, h1⟩, h2⟩
    · exact .inl ⟨c, by rw [← h t (by simp [slotsG, hgd])]; exact h1, h2⟩
    · exact .inr ⟨⟨c, by rw [← h t (by simp [slotsG, hgd])]; exact h1⟩, h2⟩

theorem wpG_some {P : Program} {o : MOper} {e : Env} {σ : AHeap} {K : AV → AHeap → Prop} {skip : Prop} (h : wpG P o e σ K skip) : (GuardIs o e true ∧ wpOp P o.op e σ K) ∨ (GuardIs o e false ∧ skip) := by
  unfold wpG at h
  split at h
  · rename_i hg; left; exact ⟨by simp [GuardIs, hg], h⟩
  · rename_i t want hg
    split at h
    · rename_i b hb
      have hb : e t = .bool b := by
        cases he : e t <;> rw [he] at hb <;> simp [guardVal] at hb
        rw [hb]
      split at h
      · rename_i hbw; left; exact ⟨by simp [GuardIs, hg, hb, hbw], h⟩
      · rename_i hbw; right; exact ⟨by simp [GuardIs, hg, hb, hbw], h⟩
    · rename_i hb
      have hb : ∃ vs, e t = .tuple vs := by
        cases he : e t <;> rw [he] at hb <;> simp [guardVal] at hb
        exact ⟨_, rfl⟩
      obtain ⟨vs, hb⟩ := hb
      right; exact ⟨by simp [GuardIs, hg, hb], h⟩
    · exact h.elim

theorem fix_congr {e e' : Env} {m : MOp} (h : ∀ t ∈ slotsOf m, e t = e' t) : fixOp e m = fixOp e' m := by
  cases m with
  | load1 a => simp only [fixOp]; rw [opd_congr h]
  | loadN n a => simp only [fixOp]; rw [opd_congr h]
  | ofBytes a => simp only [fixOp]; rw [opd_congr h]
  | sliceArr n s x lo hi mx =>
    have hm : ∀ {y : Option Opd}, y.map (Opd.ev e) = y.map (Opd.ev e') → (y.map fun z => Opd.c (z.ev e)) = y.map fun z => Opd.c (z.ev e') := by
      intro y hy; cases y with
      | none => rfl
      | some z => simp only [Option.map_some, Option.some.injEq] at hy ⊢; rw [hy]
    simp only [fixOp]
    rw [opd_congr (e := e) (e' := e') (x := x) (fun t ht => h t (by simp [slotsOf, ht])), hm (opt_congr (e := e) (e' := e') (x := lo) (fun t ht => h t (by simp only [slotsOf, List.flatMap_append, List.mem_append]; exact .inr (.inl (.inl ht))))), hm (opt_congr (e := e) (e' := e') (x := hi) (fun t ht => h t (by simp only [slotsOf, List.flatMap_append, List.mem_append]; exact .inr (.inl (.inr ht))))), hm (opt_congr (e := e) (e' := e') (x := mx) (fun t ht => h t (by simp only [slotsOf, List.flatMap_append, List.mem_append]; exact .inr (.inr ht))))]
  | _ => rfl

/-- What an operation sees: of what lies before it what it left, else what there was. -/
def viewE (ms : List MOper) (A : List Nat) (i : Nat) (e e0 : Env) : Env :=
  fun t => if (List.range ms.length).any (fun j => anc A i j && dstB ms j t) then e t else e0 t

/-- The slots as they stand: of what the tree has behind it, and the run has not, what there was. -/
def mixE (ms : List MOper) (done : List Nat) (listed : Nat → Bool) (e e0 : Env) : Env :=
  fun t => if done.any (fun j => !listed j && dstB ms j t) then e0 t else e t

def QVal (ms : List MOper) (A : List Nat) (e0 : Env) (ps : List Pend) (e : Env) (σ : AHeap) (i : Nat) : Prop :=
  ∃ o, ms[i]? = some o ∧ ((∃ v, GuardIs o (viewE ms A i e e0) true ∧ evOp (Opd.ev (viewE ms A i e e0)) σ o.op = some (v, σ) ∧ (∀ d, o.dst = some d → e d = v) ∧
      (isRead o.op = true → ∃ p ∈ ps, p.i = i ∧ p.op = fixOp (viewE ms A i e e0) o.op ∧ p.v = v)) ∨
    (GuardIs o (viewE ms A i e e0) false ∧ ∀ d, o.dst = some d → e d = .und))

structure DI (P : Program) (ms : List MOper) (A : List Nat) (K : Env → AHeap → Prop) (e0 : Env) (listed : Nat → Bool) (done : List Nat) (t : DTree) (ps : List Pend) (e : Env) (σ : AHeap) : Prop where
  dlt : ∀ j ∈ done, j < ms.length
  sub : ∀ i, listed i = true → i ∈ done
  louds : ∀ i ∈ done, loudAt ms i = true → listed i = true
  clD : ∀ i ∈ done, ∀ j, j < ms.length → anc A i j = true → j ∈ done
  fresh : ∀ t, (∀ j ∈ done, dstB ms j t = false) → e t = e0 t
  qv : ∀ i ∈ done, listed i = false → QVal ms A e0 ps e σ i
  tree : treeOk ms A t done false = true
  wp : wpTree P ms K t ps e σ

section
variable {P : Program} {ms : List MOper} {A : List Nat} {K : Env → AHeap → Prop} {e0 : Env} {listed : Nat → Bool}

theorem slotOk_at (h : slotOk ms A = true) {i j : Nat} {a b : MOper} (hi : ms[i]? = some a) (hj : ms[j]? = some b) (hne : i ≠ j) {t : Nat} (ht : b.dst = some t) :
    a.dst ≠ some t ∧ (t ∈ slotsG a → anc A i j = true ∨ anc A j i = true) := by
  unfold slotOk at h
  have h1 := List.all_eq_true.1 h i (List.mem_range.2 (idx_lt hi))
  have h2 := List.all_eq_true.1 h1 j (List.mem_range.2 (idx_lt hj))
  simp only [hi, hj, ht, Bool.or_eq_true, beq_iff_eq] at h2
  rcases h2 with h2 | h2
  · exact absurd h2 hne
  · simp only [Bool.and_eq_true, bne_iff_ne, ne_eq, Bool.or_eq_true, Bool.not_eq_true', List.contains_eq_mem] at h2
    refine ⟨h2.1, fun hm => ?_⟩
    rcases h2.2 with (h3 | h3) | h3
    · simp [hm] at h3
    · exact .inl h3
    · exact .inr h3

theorem dstB_some {j t : Nat} (h : dstB ms j t = true) : ∃ o, ms[j]? = some o ∧ o.dst = some t := by
  unfold dstB at h
  split at h
  · rename_i o ho; exact ⟨o, ho, by simpa using h⟩
  · cases h

theorem dstB_mk {j t : Nat} {o : MOper} (h : ms[j]? = some o) (ht : o.dst = some t) : dstB ms j t = true := by simp [dstB, h, ht]

/-- One operation more behind the tree: what the elder ones see stays. -/
theorem view_put (hs : slotOk ms A = true) {done : List Nat} {i : Nat} {o : MOper} (hi : ms[i]? = some o) (hid : i ∉ done) {e : Env} (v : AV) {q : Nat} (hq : ∀ j, j < ms.length → anc A q j = true → j ∈ done) :
    viewE ms A q (putD e o.dst v) e0 = viewE ms A q e e0 := by
  funext t
  unfold viewE
  by_cases h : (List.range ms.length).any (fun j => anc A q j && dstB ms j t) = true
  · rw [if_pos h, if_pos h]
    obtain ⟨j, hj, hj2⟩ := List.any_eq_true.1 h
    simp only [Bool.and_eq_true] at hj2
    have hjd := hq j (List.mem_range.1 hj) hj2.1
    obtain ⟨b, hb, hbt⟩ := dstB_some hj2.2
    have := (slotOk_at hs hi hb (fun e => hid (e ▸ hjd)) hbt).1
    unfold putD
    cases hd : o.dst with
    | none => rfl
    | some d =>
      simp only
      rw [if_neg (fun e => this (by rw [hd, e]))]
  · rw [if_neg h, if_neg h]

theorem fresh_view (hs : slotOk ms A = true) {done : List Nat} {i : Nat} {o : MOper} (hi : ms[i]? = some o) (hid : i ∉ done) {e : Env} (v : AV) (hfresh : ∀ t, (∀ j ∈ done, dstB ms j t = false) → e t = e0 t)
    (hanc : ∀ j, j < ms.length → anc A i j = true → j ∈ done) (hcl : ∀ k ∈ done, ∀ j, j < ms.length → anc A k j = true → j ∈ done) : ∀ t ∈ slotsG o, e t = viewE ms A i (putD e o.dst v) e0 t := by
  intro t ht
  unfold viewE
  split
  · rename_i h
    obtain ⟨j, hj, hj2⟩ := List.any_eq_true.1 h
    simp only [Bool.and_eq_true] at hj2
    have hjd := hanc j (List.mem_range.1 hj) hj2.1
    obtain ⟨b, hb, hbt⟩ := dstB_some hj2.2
    have := (slotOk_at hs hi hb (fun e => hid (e ▸ hjd)) hbt).1
    unfold putD
    cases hd : o.dst with
    | none => rfl
    | some d =>
      simp only
      rw [if_neg (fun e => this (by rw [hd, e]))]
  · rename_i h
    refine hfresh t fun j hj => ?_
    cases hb : dstB ms j t with
    | false => rfl
    | true =>
      exfalso
      obtain ⟨b, hb', hbt⟩ := dstB_some hb
      have hne : i ≠ j := fun e => hid (e ▸ hj)
      rcases (slotOk_at hs hi hb' hne hbt).2 ht with h1 | h1
      · exact h (List.any_eq_true.2 ⟨j, List.mem_range.2 (idx_lt hb'), by simp [h1, hb]⟩)
      · exact hid (hcl j hj i (idx_lt hi) h1)

theorem fresh_put {done : List Nat} {i : Nat} {o : MOper} (hi : ms[i]? = some o) {e : Env} (v : AV) (hfresh : ∀ t, (∀ j ∈ done, dstB ms j t = false) → e t = e0 t) : ∀ t, (∀ j ∈ i :: done, dstB ms j t = false) → putD e o.dst v t = e0 t := by
  intro t h
  have h1 := h i (by simp)
  unfold putD
  cases hd : o.dst with
  | none => exact hfresh t (fun j hj => h j (by simp [hj]))
  | some d =>
    simp only
    rw [if_neg (fun e => by rw [dstB_mk hi (by rw [hd, e])] at h1; cases h1)]
    exact hfresh t (fun j hj => h j (by simp [hj]))

/-- What elder operations would answer stays. -/
theorem qval_put (hs : slotOk ms A = true) {done : List Nat} {i : Nat} {o : MOper} (hi : ms[i]? = some o) (hid : i ∉ done) {e : Env} (v : AV) {ps ps' : List Pend} (hps : ∀ p ∈ ps, p ∈ ps') {σ : AHeap} {q : Nat} (hqd : q ∈ done) (hq : ∀ j, j < ms.length → anc A q j = true → j ∈ done)
    (h : QVal ms A e0 ps e σ q) : QVal ms A e0 ps' (putD e o.dst v) σ q := by
  obtain ⟨b, hb, h⟩ := h
  have hne : i ≠ q := fun e => hid (e ▸ hqd)
  have hv := view_put (e0 := e0) hs hi hid (e := e) v hq
  have hd : ∀ d, b.dst = some d → putD e o.dst v d = e d := by
    intro d hbd
    have := (slotOk_at hs hi hb hne hbd).1
    unfold putD
    cases ho : o.dst with
    | none => rfl
    | some d' =>
      simp only
      rw [if_neg (fun e => this (by rw [ho, e]))]
  refine ⟨b, hb, ?_⟩
  rw [hv]
  rcases h with ⟨u, h1, h2, h3, h4⟩ | ⟨h1, h2⟩
  · refine .inl ⟨u, h1, h2, fun d hbd => by rw [hd d hbd]; exact h3 d hbd, fun hr => ?_⟩
    obtain ⟨p, p1, p2⟩ := h4 hr
    exact ⟨p, hps p p1, p2⟩
  · exact .inr ⟨h1, fun d hbd => by rw [hd d hbd]; exact h2 d hbd⟩

/-- The quiet operations ahead are gone through. -/
theorem advance (hs : slotOk ms A = true) : ∀ (t : DTree) {done : List Nat} {ps : List Pend} {e : Env} {σ : AHeap}, DI P ms A K e0 listed done t ps e σ → (∀ i, listed i = true → i ∈ done) →
    ∃ done' t' ps' e', DI P ms A K e0 listed done' t' ps' e' σ ∧ (t' = .leaf ∨ ∃ i again t1 o, t' = .loud i again t1 o) ∧ (∀ j ∈ done, j ∈ done') ∧ (∀ j ∈ done', j ∉ done → listed j = false) ∧
      (∀ s, (∀ j ∈ done', j ∉ done → dstB ms j s = false) → e' s = e s)
  | .leaf, done, ps, e, σ, h, _ => ⟨done, .leaf, ps, e, h, .inl rfl, fun _ h => h, fun j h1 h2 => absurd h1 h2, fun _ _ => rfl⟩
  | .loud i again t1 o, done, ps, e, σ, h, _ => ⟨done, .loud i again t1 o, ps, e, h, .inr ⟨_, _, _, _, rfl⟩, fun _ h => h, fun j h1 h2 => absurd h1 h2, fun _ _ => rfl⟩
  | .stop, done, ps, e, σ, h, _ => by have := h.tree; simp [treeOk] at this
  | .quiet i t, done, ps, e, σ, h, hsub => by
    have ht := h.tree
    simp only [treeOk, Bool.and_eq_true, decide_eq_true_eq, Bool.not_eq_true', List.contains_eq_mem, decide_eq_false_iff_not] at ht
    obtain ⟨⟨⟨⟨⟨_, hlt⟩, hid⟩, hq⟩, hanc⟩, htree⟩ := ht
    have hanc' : ∀ j, j < ms.length → anc A i j = true → j ∈ done := by
      intro j hj ha
      have := List.all_eq_true.1 hanc j (List.mem_range.2 hj)
      simpa [ha] using this
    have hw := h.wp
    obtain ⟨o, ho⟩ : ∃ o, ms[i]? = some o := ⟨ms[i], List.getElem?_eq_getElem hlt⟩
    simp only [wpTree, ho] at hw
    have hl : listed i = false := by
      cases hh : listed i with
      | false => rfl
      | true => exact absurd (hsub i hh) hid
    have hquiet : isLoud o.op = false := by simpa [loudAt, ho] using hq
    -- one step
    have step : ∀ (v : AV) (ps1 : List Pend), (∀ p ∈ ps, p ∈ ps1) → wpTree P ms K t ps1 (putD e o.dst v) σ → QVal ms A e0 ps1 (putD e o.dst v) σ i → DI P ms A K e0 listed (i :: done) t ps1 (putD e o.dst v) σ := by
      intro v ps1 hps hwp hqi
      refine ⟨fun j hj => ?_, fun j hj => by simp [hsub j hj], fun j hj hlj => ?_, fun k hk j hj ha => ?_, fresh_put ho v h.fresh, fun q hqd hql => ?_, htree, hwp⟩
      · rcases List.mem_cons.1 hj with rfl | hj
        · exact hlt
        · exact h.dlt j hj
      · rcases List.mem_cons.1 hj with rfl | hj
        · simp [loudAt, ho, hquiet] at hlj
        · exact h.louds j hj hlj
      · rcases List.mem_cons.1 hk with rfl | hk
        · exact List.mem_cons_of_mem _ (hanc' j hj ha)
        · exact List.mem_cons_of_mem _ (h.clD k hk j hj ha)
      · rcases List.mem_cons.1 hqd with rfl | hqd
        · exact hqi
        · exact qval_put hs ho hid v hps hqd (fun j hj ha => h.clD q hqd j hj ha) (h.qv q hqd hql)
    have done_step : ∀ (v : AV) (ps1 : List Pend), DI P ms A K e0 listed (i :: done) t ps1 (putD e o.dst v) σ →
        ∃ done' t' ps' e', DI P ms A K e0 listed done' t' ps' e' σ ∧ (t' = .leaf ∨ ∃ i again t1 o, t' = .loud i again t1 o) ∧ (∀ j ∈ done, j ∈ done') ∧ (∀ j ∈ done', j ∉ done → listed j = false) ∧ (∀ s, (∀ j ∈ done', j ∉ done → dstB ms j s = false) → e' s = e s) := by
      intro v ps1 hdi
      obtain ⟨done', t', ps', e', g1, g2, g3, g4, g5⟩ := advance hs t hdi (fun j hj => by simp [hsub j hj])
      refine ⟨done', t', ps', e', g1, g2, fun j hj => g3 j (by simp [hj]), fun j hj hjd => ?_, fun s hsn => ?_⟩
      · by_cases hji : j = i
        · subst hji; exact hl
        · exact g4 j hj (by simp [hji, hjd])
      · rw [g5 s (fun j hj hjd => hsn j hj (fun h => hjd (by simp [h])))]
        have hi0 := hsn i (g3 i (by simp)) hid
        unfold putD
        cases hd : o.dst with
        | none => rfl
        | some d =>
          simp only
          rw [if_neg (fun e => by rw [dstB_mk ho (by rw [hd, e])] at hi0; cases hi0)]
    have fv : ∀ v, ∀ s ∈ slotsG o, e s = viewE ms A i (putD e o.dst v) e0 s := fun v => fresh_view hs ho hid v h.fresh hanc' h.clD
    have hdst : ∀ v d, o.dst = some d → putD e o.dst v d = v := by intro v d hd; simp [putD, hd]
    rcases wpG_some hw with ⟨hg, hk⟩ | ⟨hg, hk⟩
    · have hcall : callOf o.op = false := by
        cases hm : o.op <;> first | rfl | (rw [hm] at hquiet; simp [isLoud, isPure, isRead] at hquiet)
      obtain ⟨v, σ', h1, h2⟩ := wpOp_ev hcall hk
      have hσ : σ' = σ := by
        simp only [isLoud, Bool.not_eq_false', Bool.or_eq_true] at hquiet
        rcases hquiet with hp | hr
        · exact (pure_ev hp h1).1
        · exact read_ev hr h1
      subst hσ
      refine done_step v _ (step v _ (fun p hp => by split <;> simp [hp]) h2 ⟨o, ho, .inl ⟨v, guardIs_congr (fv v) hg, ?_, hdst v, fun hr => ?_⟩⟩)
      · rw [← h1]; exact (ev_congr _ (fun s hs' => fv v s (by simp [slotsG, hs']))).symm
      · rw [if_pos hr]
        exact ⟨⟨i, fixOp e o.op, v⟩, List.mem_cons_self, rfl, fix_congr (fun s hs' => fv v s (by simp [slotsG, hs'])), rfl⟩
    · exact done_step .und ps (step .und ps (fun p hp => hp) hk ⟨o, ho, .inr ⟨guardIs_congr (fv .und) hg, hdst .und⟩⟩)

/-- The tree's head when all that is quiet is behind it: the end, or choices. -/
def headOk : DTree → Prop
  | .leaf => True
  | .loud _ _ _ _ => True
  | _ => False

/-- A choice of the tree. -/
theorem pick_alt {i : Nat} {done : List Nat} {e : Env} {σ : AHeap} {ps : List Pend} : ∀ {t : DTree} {inA : Bool}, i ∈ alts t → treeOk ms A t done inA = true → wpTree P ms K t ps e σ →
    ∃ again t1 o, i < ms.length ∧ i ∉ done ∧ ms[i]? = some o ∧ loudAt ms i = true ∧ (∀ j, j < ms.length → anc A i j = true → j ∈ done) ∧ (∀ j, j < ms.length → j ∈ done → readAt ms j = true → anc A i j = false → j ∈ again) ∧
      treeOk ms A t1 (i :: done) false = true ∧ wpG P o e σ (fun v σ' => still σ' ps again ∧ wpTree P ms K t1 ps (putD e o.dst v) σ') (wpTree P ms K t1 ps (putD e o.dst .und) σ)
  | .leaf, _, h, _, _ => by simp [alts] at h
  | .stop, _, h, _, _ => by simp [alts] at h
  | .quiet _ _, _, h, _, _ => by simp [alts] at h
  | .loud k again t1 other, inA, h, ht, hw => by
    simp only [treeOk, Bool.and_eq_true, decide_eq_true_eq, Bool.not_eq_true', List.contains_eq_mem, decide_eq_false_iff_not] at ht
    obtain ⟨⟨⟨⟨⟨⟨⟨h1, h2⟩, h3⟩, h4⟩, h5⟩, h6⟩, h7⟩, _⟩ := ht
    simp only [wpTree] at hw
    obtain ⟨hw1, hw2⟩ := hw
    by_cases hik : i = k
    · subst hik
      have hio : ms[i]? = some ms[i] := List.getElem?_eq_getElem h1
      rw [hio] at hw1
      refine ⟨again, t1, ms[i], h1, h2, hio, h3, fun j hj ha => ?_, fun j hj hd hr ha => ?_, h6, hw1⟩
      · have := List.all_eq_true.1 h4 j (List.mem_range.2 hj); simpa [ha] using this
      · have := List.all_eq_true.1 h5 j (List.mem_range.2 hj); simpa [ha, hr, hd] using this
    · have : i ∈ alts other := by simp [alts] at h; rcases h with h | h; exact absurd h hik; exact h
      exact pick_alt this h7 hw2

variable {N : Nat} {ops : Array Oper} {σ0 : AHeap} {ρ0 : Nat → Place} {w0 : World} {G : Nat → Prop}

theorem mixE_eq_e {done : List Nat} {e : Env} {o : MOper} {i : Nat} (hs : slotOk ms A = true) (hi : ms[i]? = some o) (hid : i ∉ done) (hA : ∀ j, j < ms.length → anc A i j = true → listed j = true) (hcl : ∀ k ∈ done, ∀ j, j < ms.length → anc A k j = true → j ∈ done) :
    ∀ t ∈ slotsG o, e t = mixE ms done listed e e0 t := by
  intro t ht
  unfold mixE
  split
  · rename_i h
    exfalso
    obtain ⟨j, hj, hj2⟩ := List.any_eq_true.1 h
    simp only [Bool.and_eq_true, Bool.not_eq_true'] at hj2
    obtain ⟨b, hb, hbt⟩ := dstB_some hj2.2
    have hne : i ≠ j := fun e => hid (e ▸ hj)
    rcases (slotOk_at hs hi hb hne hbt).2 ht with h1 | h1
    · rw [hA j (idx_lt hb) h1] at hj2; simp at hj2
    · exact hid (hcl j hj i (idx_lt hi) h1)
  · rfl

theorem mixE_eq_view {done : List Nat} {e : Env} {o : MOper} {i : Nat} (hs : slotOk ms A = true) (hi : ms[i]? = some o) (hil : listed i = false) (hid : i ∈ done) (hA : ∀ j, j < ms.length → anc A i j = true → listed j = true) (hAi : ∀ j, j < ms.length → listed j = true → anc A j i = true → False)
    (hfresh : ∀ t, (∀ j ∈ done, dstB ms j t = false) → e t = e0 t) : ∀ t ∈ slotsG o, viewE ms A i e e0 t = mixE ms done listed e e0 t := by
  intro t ht
  unfold viewE mixE
  split
  · rename_i h
    obtain ⟨j, hj, hj2⟩ := List.any_eq_true.1 h
    simp only [Bool.and_eq_true] at hj2
    have hjl := hA j (List.mem_range.1 hj) hj2.1
    obtain ⟨b, hb, hbt⟩ := dstB_some hj2.2
    rw [if_neg]
    intro h'
    obtain ⟨j', hj', hj2'⟩ := List.any_eq_true.1 h'
    simp only [Bool.and_eq_true, Bool.not_eq_true'] at hj2'
    obtain ⟨b', hb', hbt'⟩ := dstB_some hj2'.2
    by_cases hjj : j' = j
    · subst hjj; rw [hjl] at hj2'; simp at hj2'
    · exact (slotOk_at hs hb' hb hjj hbt).1 hbt'
  · rename_i h
    split
    · rfl
    · rename_i h'
      refine (hfresh t fun j hj => ?_).symm
      cases hb : dstB ms j t with
      | false => rfl
      | true =>
        exfalso
        have hjl : listed j = true := by
          cases hl : listed j with
          | true => rfl
          | false => exact absurd (List.any_eq_true.2 ⟨j, hj, by simp [hl, hb]⟩) h'
        obtain ⟨b, hb', hbt⟩ := dstB_some hb
        have hne : i ≠ j := fun e => by subst e; rw [hil] at hjl; cases hjl
        rcases (slotOk_at hs hi hb' hne hbt).2 ht with h1 | h1
        · exact h (List.any_eq_true.2 ⟨j, List.mem_range.2 (idx_lt hb'), by simp [h1, hb]⟩)
        · exact hAi j (idx_lt hb') hjl h1

/-- The slots as they stand, one operation more listed. -/
theorem mixE_list {done : List Nat} {e : Env} {o : MOper} {i : Nat} (hs : slotOk ms A = true) (hi : ms[i]? = some o) (hil : listed i = false) (hid : i ∈ done) :
    mixE ms done (fun j => j == i || listed j) e e0 = fun t => if o.dst = some t then e t else mixE ms done listed e e0 t := by
  funext t
  unfold mixE
  split
  · rename_i h
    obtain ⟨j, hj, hj2⟩ := List.any_eq_true.1 h
    simp only [Bool.and_eq_true, Bool.not_eq_true', Bool.or_eq_false_iff, beq_eq_false_iff_ne] at hj2
    obtain ⟨b, hb, hbt⟩ := dstB_some hj2.2
    rw [if_neg (slotOk_at hs hi hb (fun e => hj2.1.1 e.symm) hbt).1, if_pos (List.any_eq_true.2 ⟨j, hj, by simp [hj2.1.2, hj2.2]⟩)]
  · rename_i h
    split
    · rfl
    · rename_i hd
      rw [if_neg]
      intro h'
      obtain ⟨j, hj, hj2⟩ := List.any_eq_true.1 h'
      simp only [Bool.and_eq_true, Bool.not_eq_true'] at hj2
      refine h (List.any_eq_true.2 ⟨j, hj, ?_⟩)
      simp only [Bool.and_eq_true, Bool.not_eq_true', Bool.or_eq_false_iff, beq_eq_false_iff_ne]
      refine ⟨⟨fun e => ?_, hj2.1⟩, hj2.2⟩
      subst e
      obtain ⟨b, hb, hbt⟩ := dstB_some hj2.2
      rw [hi] at hb; cases hb
      exact hd hbt

end
end Go.Gz
