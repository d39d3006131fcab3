/- All operations together. -/
import Derived.Test.YtnooejmbhdgbpaaGreatDoorK11
set_option linter.unusedVariables false
set_option linter.unusedSimpArgs false
namespace Go.Gz

section
variable {P : Program} {σ : AHeap} {ρ : Nat → Place} {w : World} {G : Nat → Prop} {N : Nat} {e : Env} {a : Act}

theorem cOpt_rel {C : Ctx} (he : EnvRel C N e a) {x : Option Operand} {y : Option Opd} (h : cOpt N x = some y) : ORel C (y.map (·.ev e)) (x.map a.eval) := by
  cases x with
  | none => simp [cOpt] at h; subst h; trivial
  | some x =>
    simp only [cOpt] at h
    cases hh : cOpd N x with
    | none => simp [hh] at h
    | some z => simp [hh] at h; subst h; exact cOpd_rel hh he

theorem VOk.ex {P : Program} {s : Sem Value} {x : AV} (hw : WRel σ ρ w G) (h : ∃ v, s.run P w = .ok v w ∧ VRel (ctx σ ρ w G) x v) : VOk P s σ ρ w G x σ := by
  obtain ⟨v, h1, h2⟩ := h; exact .stay hw h1 h2

theorem map_pair {α : Type} {o : Option α} {f : α → AV} {x : AV} {σ' : AHeap} (h : (o.map fun y => (f y, σ)) = some (x, σ')) : σ' = σ ∧ ∃ y, o = some y ∧ f y = x := by
  cases o with
  | none => simp at h
  | some y => simp at h; exact ⟨h.2.symm, y, rfl, h.1⟩

theorem arr_map {α β : Type} (f : α → β) (ps : Array α) : (ps.toList.map f).toArray = ps.map f := by
  apply Array.ext'; simp

/-- The built-in functions. -/
theorem builtin_ok {b : Builtin} {tys : List TypeId} {args : List Operand} {ty : TypeId} {cs : Array Bool} {m : MOp} {x : AV} {σ' : AHeap} (hc : cBuiltin P N b tys args = some m) (hw : WRel σ ρ w G) (he : EnvRel (ctx σ ρ w G) N e a) (h : evOp (Opd.ev e) σ m = some (x, σ')) :
    OpOk P (builtin b tys.toArray ty cs (args.map a.eval).toArray) σ ρ w G x σ' := by
  unfold cBuiltin at hc
  split at hc
  · -- len
    rename_i t y
    split at hc
    · rename_i z h1 h2
      cases hc
      have hr := cOpd_rel h2 he
      simp only [evOp] at h
      split at h <;> cases h
      rename_i s heq
      rw [heq] at hr
      exact VOk.op (.stay hw (lenStr_ok h1 hr w) (.int _ _))
    · rename_i el z h1 h2
      cases hc
      have hr := cOpd_rel h2 he
      simp only [evOp] at h
      obtain ⟨rfl, n, hn, rfl⟩ := map_pair (f := fun n : Nat => AV.int .i64 (n : Int)) h
      exact VOk.op (.stay hw (lenSl_ok h1 hr hn w) (.int _ _))
    · rename_i n el h1
      cases hc
      simp only [evOp] at h
      cases h
      exact VOk.op (.stay hw (v := .int .i64 (n : Int)) (by simp [Builtin.len_, run_underlying_of h1, goInt]) (.int _ _))
    · cases hc
  · -- cap
    rename_i t y
    split at hc
    · rename_i el z h1 h2
      cases hc
      have hr := cOpd_rel h2 he
      simp only [evOp] at h
      obtain ⟨rfl, n, hn, rfl⟩ := map_pair (f := fun n : Int => AV.int .i64 n) h
      exact VOk.op (.stay hw (capOf_ok h1 hr hn w) (.int _ _))
    · cases hc
  · -- append
    rename_i t t2 sv xv
    split at hc
    · rename_i el d so xo h1 h2 h3 h4
      split at hc
      · rename_i sz by_ z h5 h6 h7
        split at hc
        · rename_i hh
          obtain ⟨g1, g2, g3, g4⟩ := hh
          simp only [Option.some.injEq] at hc
          subst hc
          have hd : ∀ k, d ≠ .int k := by intro k hk; subst hk; simp [isIntD] at g4
          simp only [evOp] at h
          exact VOk.op (append_ok (ty := ty) hw h1 h2 hd h5 h6 h7 g2 g1 g3 (cOpd_rel h3 he) (cOpd_rel h4 he) h)
        · simp at hc
      · cases hc
    · cases hc
  · -- clear
    rename_i t y
    split at hc
    · rename_i el xo h1 h2
      split at hc
      · rename_i sz z h3 h4
        split at hc
        · simp only [Option.some.injEq] at hc
          subst hc
          simp only [evOp] at h
          exact VOk.op (clear_ok (ty := ty) hw h1 h4 (cOpd_rel h2 he) h)
        · cases hc
      · cases hc
    · cases hc
  · -- min
    cases hy : cOpds N args with
    | none => simp [hy] at hc
    | some ys =>
      simp [hy] at hc; subst hc
      have hr := cOpds_rel he hy
      simp only [evOp] at h
      split at h
      · cases h
      · rename_i x0 r heq
        rw [heq] at hr
        obtain ⟨rfl, q, hq, rfl⟩ := map_pair (f := fun y => y) h
        have := hr.1
        cases hv : args.map a.eval with
        | nil => rw [hv] at this; simp at this
        | cons v vs =>
          rw [hv] at hr
          obtain ⟨u, h1, h2⟩ := foldMM_ok (P := P) w hr.head hr.tail hq
          refine VOk.op (.stay hw (v := u) ?_ h2)
          simpa [Builtin.min_] using h1
  · -- max
    cases hy : cOpds N args with
    | none => simp [hy] at hc
    | some ys =>
      simp [hy] at hc; subst hc
      have hr := cOpds_rel he hy
      simp only [evOp] at h
      split at h
      · cases h
      · rename_i x0 r heq
        rw [heq] at hr
        obtain ⟨rfl, q, hq, rfl⟩ := map_pair (f := fun y => y) h
        have := hr.1
        cases hv : args.map a.eval with
        | nil => rw [hv] at this; simp at this
        | cons v vs =>
          rw [hv] at hr
          obtain ⟨u, h1, h2⟩ := foldMM_ok (P := P) w hr.head hr.tail hq
          refine VOk.op (.stay hw (v := u) ?_ h2)
          simpa [Builtin.max_] using h1
  · cases hc

theorem op_ok {o : Oper} {m : MOp} {x : AV} {σ' : AHeap} (hc : cOp P N o.op = some m) (hw : WRel σ ρ w G) (he : EnvRel (ctx σ ρ w G) N e a) (h : evOp (Opd.ev e) σ m = some (x, σ')) :
    OpOk P (execOp a.eval o) σ ρ w G x σ' := by
  obtain ⟨dst, op, ty, pos, after, guard⟩ := o
  simp only at hc
  unfold cOp at hc
  split at hc
  case h_1 | h_2 =>
    rename_i y
    cases hy : cOpd N y with
    | none => simp [hy] at hc
    | some z =>
      simp [hy] at hc; subst hc
      simp [evOp] at h
      obtain ⟨rfl, rfl⟩ := h
      exact .stay hw (by simp [execOp]) (cOpd_rel hy he)
  case h_3 =>
    rename_i y
    cases hy : cOpd N y with
    | none => simp [hy] at hc
    | some z =>
      simp [hy] at hc; subst hc
      have hr := cOpd_rel hy he
      simp only [evOp] at h
      simp only [execOp]
      generalize a.eval y = v at hr ⊢
      split at h <;> cases h <;> rename_i heq <;> rw [heq] at hr <;> cases hr
      · exact .stay hw rfl (.ptr _ _ ‹_› ‹_›)
      · exact .stay hw rfl (.iptr _ _ _ _ ‹_› ‹_›)
      · rename_i k1 k2 k3 k4; exact .stay hw rfl (.bptr _ _ k1 k2 k4 k3)
      · exact .stay hw rfl (.func _ _ _ ‹_› ‹_›)
  case h_4 =>
    rename_i c p q
    split at hc
    · rename_i c' p' q' h1 h2 h3
      cases hc
      have r1 := cOpd_rel h1 he
      have r2 := cOpd_rel h2 he
      have r3 := cOpd_rel h3 he
      simp only [evOp] at h
      simp only [execOp]
      generalize a.eval c = vc at r1 ⊢
      split at h <;> cases h <;> rename_i heq <;> rw [heq] at r1 <;> cases r1
      · exact .stay hw (by simp [asBool]) r2
      · exact .stay hw (by simp [asBool]) r3
    · cases hc
  case h_5 =>
    rename_i el
    cases hz : zeroT P el with
    | none => simp [hz] at hc
    | some z =>
      simp [hz] at hc; subst hc
      simp [evOp] at h
      obtain ⟨rfl, rfl⟩ := h
      exact (alloc_ok hw hz).op
  case h_6 =>
    rename_i y
    cases hy : cOpd N y with
    | none => simp [hy] at hc
    | some z =>
      simp [hy] at hc; subst hc
      simp only [evOp] at h
      cases hz : (z.ev e).cells? with
      | none => simp [hz] at h
      | some cs =>
        simp [hz] at h
        obtain ⟨rfl, rfl⟩ := h
        exact (box_ok hw (cOpd_rel hy he) hz).op
  case h_7 =>
    rename_i t ps
    split at hc
    · rename_i fs ht
      split at hc
      · rename_i l z h1 h2
        cases hq : cParts N (l[·]?) ps.toList with
        | none => simp [hq] at hc
        | some qs =>
          simp [hq] at hc; subst hc
          simp only [evOp] at h
          obtain ⟨rfl, r, hr, rfl⟩ := map_pair (f := AV.agg) h
          have := build_struct_ok (P := P) ht h1 h2 (cParts_ok he _ hq) hr w
          rw [arr_map] at this
          exact VOk.op (VOk.ex hw this)
      · cases hc
    · rename_i n el ht
      split at hc
      · rename_i s z h1 h2
        cases hq : cParts N (fun i => some (i * s, s)) ps.toList with
        | none => simp [hq] at hc
        | some qs =>
          simp [hq] at hc; subst hc
          simp only [evOp] at h
          obtain ⟨rfl, r, hr, rfl⟩ := map_pair (f := AV.agg) h
          have := build_array_ok (P := P) ht h1 h2 (cParts_ok he _ hq) hr w
          rw [arr_map] at this
          exact VOk.op (VOk.ex hw this)
      · cases hc
    · cases hc
  case h_8 =>
    rename_i t len ps
    split at hc
    · rename_i el ht
      split at hc
      · rename_i s z h1 h2
        split at hc
        · rename_i hh
          obtain ⟨g1, g2, g3⟩ := hh
          cases hq : cParts N (fun i => some (i * s, s)) ps.toList with
          | none => simp [hq] at hc
          | some qs =>
            simp [hq] at hc; subst hc
            simp only [evOp] at h
            cases hr : fillParts (List.replicate len z).flatten (qs.map fun (o, s, x) => (o, s, x.ev e)) with
            | none => simp [hr] at h
            | some r =>
              simp [hr] at h
              obtain ⟨rfl, rfl⟩ := h
              have := buildSlice_ok (P := P) (len := len) hw ht h1 h2 g1 g2 g3 (cParts_ok he _ hq) hr
              rw [arr_map] at this
              exact VOk.op this
        · cases hc
      · cases hc
    · cases hc
  case h_9 =>
    rename_i t ad
    split at hc
    · rename_i s y h1 h2 h3
      cases hc
      have hr := cOpd_rel h3 he
      simp only [evOp] at h
      obtain ⟨rfl, xs, hxs, rfl⟩ := map_pair (f := AV.agg) h
      exact VOk.op (loadN_ok hw h1 h2 hr hxs)
    · rename_i y h1 h3
      cases hc
      have hr := cOpd_rel h3 he
      simp only [evOp] at h
      obtain ⟨rfl, xs, hxs, rfl⟩ := map_pair (f := fun y => y) h
      exact VOk.op (load1_ok hw h1 hr hxs)
    · cases hc
  case h_10 =>
    rename_i t ad y
    split at hc
    · rename_i s ao yo h1 h2 h3
      cases hc
      have r1 := cOpd_rel h2 he
      have r2 := cOpd_rel h3 he
      simp only [evOp] at h
      split at h
      · rename_i id off cs heq hcs
        rw [heq] at r1
        split at h
        · rename_i hh
          cases hg : hget σ id with
          | none => simp [hg] at h
          | some old =>
            cases hp : put old off cs with
            | none => simp [hg, hp] at h
            | some r =>
              simp [hg, hp] at h
              obtain ⟨rfl, rfl⟩ := h
              obtain ⟨w', ρ', k1, k2, k3⟩ := storeAt_ok (P := P) hw h1 r1 r2 hg hcs hh.1 hh.2 hp
              exact ⟨undef, w', ρ', .inr ⟨by simp [execOp, k1], rfl⟩, k2, k3, .unk _⟩
        · cases h
      · cases h
    · cases hc
  case h_11 =>
    rename_i op t xo yo yt
    split at hc
    · rename_i k x' y' h1 h2 h3
      cases hc
      simp only [evOp] at h
      obtain ⟨rfl, q, hq, rfl⟩ := map_pair (f := fun y => y) h
      exact VOk.op (VOk.ex hw (bin_ok h1 hq (cOpd_rel h2 he) (cOpd_rel h3 he) xo yo w))
    · cases hc
  case h_12 =>
    rename_i op t xo
    cases hy : cOpd N xo with
    | none => simp [hy] at hc
    | some z =>
      simp [hy] at hc; subst hc
      simp only [evOp] at h
      obtain ⟨rfl, q, hq, rfl⟩ := map_pair (f := fun y => y) h
      exact VOk.op (VOk.ex hw (un_ok hq (cOpd_rel hy he) w))
  case h_13 =>
    rename_i ts td xo
    split at hc
    · rename_i k k' z h1 h2 h3
      cases hc
      have hr := cOpd_rel h3 he
      simp only [evOp] at h
      split at h <;> cases h
      rename_i k2 n heq
      rw [heq] at hr
      simp only [execOp]
      generalize a.eval xo = v at hr ⊢
      cases hr
      exact VOk.op (.stay hw (v := .int k' (k'.wrap n)) (by simp [convert, run_underlying_of h1, run_underlying_of h2, Conv.intToInt]) (.int _ _))
    · rename_i z h1 h2 h3
      cases hc
      have hr := cOpd_rel h3 he
      simp only [evOp] at h
      split at h <;> cases h
      rename_i s heq
      rw [heq] at hr
      simp only [execOp]
      generalize a.eval xo = v at hr ⊢
      cases hr
      exact VOk.op (.stay hw (v := .string ⟨s.toArray⟩) (by simp [convert, run_underlying_of h1, run_underlying_of h2]) (.str _))
    · rename_i el z h1 h2 h3
      split at hc
      · rename_i h4
        cases hc
        have hr := cOpd_rel h3 he
        simp only [evOp] at h
        split at h
        case h_2 => cases h
        rename_i s heq
        rw [heq] at hr
        rw [grown] at h
        cases h
        simp only [execOp]
        generalize a.eval xo = v at hr ⊢
        cases hr
        refine VOk.op (VOk.congr (toBytes_ok (P := P) (e := el) (s := s) hw) ?_)
        simp [convert, run_underlying_of h1, run_underlying_of h2, run_underlying_of h4]
      · cases hc
    · rename_i el z h1 h2 h3
      split at hc
      · rename_i h4
        cases hc
        have hr := cOpd_rel h3 he
        simp only [evOp] at h
        obtain ⟨rfl, s, hs, rfl⟩ := map_pair (f := AV.str) h
        generalize hzz : z.ev e = zz at hr hs
        have hns : ∀ s, zz ≠ .str s := by intro s0 h0; subst h0; simp [ofBytes] at hs
        have hs' : (elemsOf σ' 1 zz).bind bytesOf = some s := by cases zz <;> simp [ofBytes] at hs ⊢ <;> exact hs
        cases hel : elemsOf σ' 1 zz with
        | none => simp [hel] at hs'
        | some xs =>
          simp [hel] at hs'
          simp only [execOp]
          have h5 := ofBytes_ok (P := P) hw hr hns hel hs'
          have hsl : ∃ b n c, a.eval xo = .slice b n c := by
            generalize a.eval xo = v at hr ⊢
            cases hr <;> simp [elemsOf] at hel <;> first | exact ⟨_, _, _, rfl⟩ | exact absurd rfl (hns _)
          obtain ⟨b, n, c, hb'⟩ := hsl
          rw [hb'] at h5 ⊢
          refine VOk.op (.stay hw (v := .string ⟨s.toArray⟩) ?_ (.str _))
          simp [convert, run_underlying_of h1, run_underlying_of h2, run_underlying_of h4, h5]
      · cases hc
    · rename_i e2 el z h1 h2 h3
      split at hc
      · rename_i h4
        split at hc
        · rename_i hsd
          cases hc
          have hsd' : ts = td := by simpa using hsd
          have hr := cOpd_rel h3 he
          simp only [evOp] at h
          split at h
          case h_2 => cases h
          rename_i id off len cap esz heq
          rw [heq] at hr
          split at h
          case isFalse => cases h
          rename_i hh
          cases h
          obtain ⟨hh1, hh2⟩ := hh
          simp only [execOp]
          obtain ⟨cs, hcs⟩ := Option.isSome_iff_exists.1 hh2
          generalize hva : a.eval xo = v at hr ⊢
          cases hr with
          | slice _ _ _ _ _ b o c i1 i2 i3 i4 i6 =>
            have i7 := i6 (by omega)
            obtain ⟨rfl, _⟩ := i7
            obtain ⟨w', m1, m2, m3⟩ := mark_ok (P := P) hw (hget_some hcs) i2 o
            refine VOk.op ⟨.slice (some ⟨(ρ id).blk, o, none⟩) len c, w', ρ, ?_, m3, m2, ?_⟩
            · subst hsd'
              have h12 : e2 = el := by rw [h1] at h2; cases h2; rfl
              subst h12
              have m1' : (markStringish ⟨((ctx σ ρ w G).ρ id).blk, o, none⟩).run P w = .ok () w' := m1
              simp only [convert, Sem.run_bind, run_underlying_of h1, Result.andThen_ok, run_underlying_of h4, beq_self_eq_true, m1', Sem.run_pure]
              rfl
            · exact VRel.keeps hw m3 (.slice _ _ _ _ _ _ _ _ i1 i2 i3 i4 i6)
          | sliceNil => omega
        · cases hc
      · cases hc
    · cases hc
  case h_14 =>
    rename_i f first caps
    split at hc
    · rename_i hf
      cases hy : cOpds N caps.toList with
      | none => simp [hy] at hc
      | some ys =>
        simp [hy] at hc; subst hc
        simp only [evOp] at h
        cases h
        have hr := cOpds_rel he hy
        have hfe : first = #[] := by simpa using hf
        subst hfe
        refine VOk.op (.stay hw (v := .func (.func f) #[] (caps.map a.eval)) (by simp [Instr.makeFunc]) ?_)
        exact .func f _ _ (by have := hr.1; simpa using this) (fun i x v hx hv => hr.2 i x v hx (by simpa using hv))
    · cases hc
  case h_15 =>
    rename_i t lo co
    split at hc
    · rename_i el ht
      split at hc
      · rename_i s by_ z l c h1 h2 h3 h4 h5
        split at hc
        · rename_i hh
          cases hc
          have r1 := cOpd_rel h4 he
          have r2 := cOpd_rel h5 he
          simp only [evOp] at h
          simp only [execOp]
          generalize a.eval lo = vl at r1 ⊢
          generalize a.eval co = vc at r2 ⊢
          split at h
          · rename_i li ci e1 e2
            rw [e1] at r1; rw [e2] at r2
            split at h
            · rename_i hb
              cases h
              cases r1; cases r2
              exact VOk.op (makeSlice_ok hw ht h1 h2 h3 hh.1 hh.2 hb)
            · cases h
          · cases h
        · cases hc
      · cases hc
    · cases hc
  case h_16 =>
    rename_i t xo lo hi mx
    split at hc
    · rename_i y lo' hi' h1 h2 h3 h4 h5
      cases hc
      simp only [evOp] at h
      obtain ⟨rfl, q, hq, rfl⟩ := map_pair (f := fun y => y) h
      have hm : mx = none := by
        cases mx with
        | none => rfl
        | some m => simp only [cOpt] at h5; cases hh : cOpd N m <;> simp [hh] at h5
      subst hm
      have := sliceStr_ok (P := P) h1 (cOpd_rel h2 he) (cOpt_rel he h3) (cOpt_rel he h4) hq w
      refine VOk.op (VOk.congr (VOk.ex hw this) ?_)
      simp [Instr.sliceAt, run_underlying_of h1]
    · rename_i el y lo' hi' mx' h1 h2 h3 h4 h5
      split at hc
      · rename_i s h6
        split at hc
        · rename_i hh
          cases hc
          simp only [evOp] at h
          obtain ⟨rfl, q, hq, rfl⟩ := map_pair (f := fun y => y) h
          have := slice_ok (P := P) h6 h1 (cOpd_rel h2 he) (cOpt_rel he h3) (cOpt_rel he h4) (cOpt_rel he h5) (by simpa using hh.2) hq w
          refine VOk.op (VOk.congr (VOk.ex hw this) ?_)
          simp [Instr.sliceAt, run_underlying_of h1]
        · cases hc
      · cases hc
    · rename_i n el y lo' hi' mx' h1 h2 h3 h4 h5
      split at hc
      · rename_i s h6
        split at hc
        · rename_i hh
          cases hc
          have hr := cOpd_rel h2 he
          simp only [evOp] at h
          split at h
          · rename_i id off heq
            rw [heq] at hr
            split at h
            · rename_i cs hg
              split at h
              · rename_i hfit
                obtain ⟨rfl, q, hq, rfl⟩ := map_pair (f := fun y => y) h
                exact VOk.op (VOk.ex hw (sliceArr_ok hw h6 h1 hg hfit hr (cOpt_rel he h3) (cOpt_rel he h4) (cOpt_rel he h5) (by simpa using hh.2) hq))
              · cases h
            · cases h
          · cases h
        · cases hc
      · cases hc
    · cases hc
  case h_17 =>
    rename_i t xo f
    split at hc
    · rename_i fs y h1 h2
      split at hc
      · rename_i fd h3
        split at hc
        · rename_i s h4
          split at hc
          · rename_i h5
            cases hc
            have hr := cOpd_rel h2 he
            simp only [evOp] at h
            obtain ⟨rfl, xs, hxs, rfl⟩ := map_pair (f := fun y => y) h
            exact VOk.op (VOk.ex hw (fieldAddr_ok h1 h3 h4 h5 hr hxs w))
          · cases hc
        · cases hc
      · cases hc
    · cases hc
  case h_18 =>
    rename_i t xo f
    split at hc
    · rename_i fs y h1 h2
      split at hc
      · rename_i fd h3
        have hr := cOpd_rel h2 he
        split at hc
        · rename_i s h4 h5
          cases hc
          simp only [evOp] at h
          split at h
          · rename_i cs heq
            obtain ⟨rfl, q, hq, rfl⟩ := map_pair (f := AV.agg) h
            rw [heq] at hr
            simp only [execOp]
            obtain ⟨vs, hv, hl⟩ := hr.agg_inv
            rw [hv]
            obtain ⟨u, u1, u2⟩ := (part_ok (P := P) (t := fd.type) hl w).2 s h4 h5 _ _ hq
            refine VOk.op (.stay hw (v := u) ?_ u2)
            unfold Instr.field
            simp [run_underlying_of h1, h3, asAgg, u1]
          · cases h
        · rename_i h4
          cases hc
          simp only [evOp] at h
          split at h
          · rename_i cs heq
            obtain ⟨rfl, q, hq, rfl⟩ := map_pair (f := fun y => y) h
            rw [heq] at hr
            simp only [execOp]
            obtain ⟨vs, hv, hl⟩ := hr.agg_inv
            rw [hv]
            obtain ⟨u, u1, u2⟩ := (part_ok (P := P) (t := fd.type) hl w).1 h4 _ _ hq
            refine VOk.op (.stay hw (v := u) ?_ u2)
            unfold Instr.field
            simp [run_underlying_of h1, h3, asAgg, u1]
          · cases h
        · cases hc
      · cases hc
    · cases hc
  case h_19 =>
    rename_i t xo io
    split at hc
    · rename_i el y i h1 h2 h3
      split at hc
      · rename_i s h4
        split at hc
        · cases hc
          have r1 := cOpd_rel h2 he
          have r2 := cOpd_rel h3 he
          simp only [evOp] at h
          obtain ⟨rfl, xs, hxs, rfl⟩ := map_pair (f := fun y => y) h
          exact VOk.op (VOk.ex hw (indexAddr_ok h1 h4 r1 r2 hxs w))
        · cases hc
      · cases hc
    · rename_i n el y i h1 h2 h3
      split at hc
      · rename_i s h4
        split at hc
        · cases hc
          have r1 := cOpd_rel h2 he
          have r2 := cOpd_rel h3 he
          simp only [evOp] at h
          obtain ⟨rfl, xs, hxs, rfl⟩ := map_pair (f := fun y => y) h
          exact VOk.op (VOk.ex hw (indexArrAddr_ok h1 h4 r1 r2 hxs w))
        · cases hc
      · cases hc
    · cases hc
  case h_20 =>
    rename_i t xo io
    split at hc
    · rename_i y i h1 h2 h3
      cases hc
      have r1 := cOpd_rel h2 he
      have r2 := cOpd_rel h3 he
      simp only [evOp] at h
      split at h
      · rename_i s heq
        rw [heq] at r1
        cases hr : inRange (i.ev e) s.length with
        | none => simp [hr] at h
        | some k =>
          cases hb : s[k]? with
          | none => simp [hr, hb] at h
          | some b =>
            simp [hr, hb] at h
            obtain ⟨rfl, rfl⟩ := h
            exact VOk.op (VOk.ex hw (indexStr_ok h1 r1 r2 hr hb w))
      · cases h
    · rename_i n el y i h1 h2 h3
      have r1 := cOpd_rel h2 he
      have r2 := cOpd_rel h3 he
      split at hc
      · rename_i s h4 h5
        cases hc
        simp only [evOp] at h
        split at h
        · rename_i cs heq
          rw [heq] at r1
          cases hr : inRange (i.ev e) n with
          | none => simp [hr] at h
          | some k =>
            cases hb : sub cs (k * s) s with
            | none => simp [hr, hb] at h
            | some b =>
              simp [hr, hb] at h
              obtain ⟨rfl, rfl⟩ := h
              obtain ⟨vs, g1, g2⟩ := indexArr_ok (P := P) h1 h5 r1 r2 hr w
              obtain ⟨u, u1, u2⟩ := (part_ok (P := P) (t := el) g1 w).2 s h4 h5 _ _ hb
              exact VOk.op (.stay hw (v := u) (g2.trans u1) u2)
        · cases h
      · rename_i s h4 h5
        split at hc
        · rename_i h6
          subst h6
          cases hc
          simp only [evOp] at h
          split at h
          · rename_i cs heq
            rw [heq] at r1
            cases hr : inRange (i.ev e) n with
            | none => simp [hr] at h
            | some k =>
              cases hb : cs[k]? with
              | none => simp [hr, hb] at h
              | some b =>
                simp [hr, hb] at h
                obtain ⟨rfl, rfl⟩ := h
                obtain ⟨vs, g1, g2⟩ := indexArr_ok (P := P) h1 h5 r1 r2 hr w
                obtain ⟨u, u1, u2⟩ := (part_ok (P := P) (t := el) g1 w).1 h4 k _ hb
                rw [Nat.mul_one] at g2
                exact VOk.op (.stay hw (v := u) (g2.trans u1) u2)
          · cases h
        · cases hc
      · cases hc
    · cases hc
  case h_21 =>
    rename_i xo i
    cases hy : cOpd N xo with
    | none => simp [hy] at hc
    | some z =>
      simp [hy] at hc; subst hc
      have hr := cOpd_rel hy he
      simp only [evOp] at h
      split at h
      · rename_i vs heq
        rw [heq] at hr
        obtain ⟨rfl, q, hq, rfl⟩ := map_pair (f := fun y => y) h
        exact VOk.op (VOk.ex hw (extract_ok hr hq w))
      · cases h
  case h_22 =>
    rename_i c
    split at hc
    · split at hc
      · split at hc
        · cases hc; simp [evOp] at h
        · cases hc
      · cases hc
    · split at hc
      · cases hc; simp [evOp] at h
      · cases hc
    · rename_i b hb
      have := builtin_ok (ty := ty) (cs := c.args.map fun | .const _ => true | _ => false) hc hw he h
      unfold OpOk at this ⊢
      have e1 : (execOp a.eval ⟨dst, .call c, ty, pos, after, guard⟩).run P w = (builtin b c.argTypes.toList.toArray ty (c.args.map fun | .const _ => true | _ => false) (c.args.toList.map a.eval).toArray).run P w := by
        simp only [execOp, resolve, hb, Sem.run_bind, Sem.run_pure, Result.andThen_ok, invoke, arr_map, Array.toArray_toList]
        rfl
      rw [e1]
      exact this
    · cases hc
  case h_23 => cases hc

end
end Go.Gz
