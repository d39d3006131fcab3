/- Least and greatest, conversions; and all operations together. -/
import Derived.Test.YtnooejmbhdgbpaaGreatDoorK10
set_option linter.unusedVariables false
set_option linter.unusedSimpArgs false
namespace Go.Gz

section
variable {P : Program} {σ : AHeap} {ρ : Nat → Place} {w : World} {G : Nat → Prop}

theorem minmax2_ok {mx : Bool} {x y z : AV} {v u : Value} {C : Ctx} (hx : VRel C x v) (hy : VRel C y u) (h : minmax2 mx x y = some z) (w : World) :
    ∃ r, (if mx then Builtin.max2 v u else Builtin.min2 v u : Sem Value).run P w = .ok r w ∧ VRel C z r := by
  cases hx <;> cases hy <;> simp only [minmax2] at h <;> (try cases h)
  · split at h <;> cases h
    cases mx
    · exact ⟨_, by simp [Builtin.min2], .int _ _⟩
    · exact ⟨_, by simp [Builtin.max2], .int _ _⟩
  · rename_i a b
    cases mx
    · refine ⟨.string ⟨(if lessBytes a b || a == b then a else b).toArray⟩, ?_, .str _⟩
      simp only [Bool.false_eq_true, if_false, Builtin.min2, Op.stringOp, toList_str, Sem.run_bind, Sem.run_pure, Result.andThen_ok, asBool]
      cases (lessBytes a b || a == b) <;> rfl
    · refine ⟨.string ⟨(if !Op.bytesLess a b then a else b).toArray⟩, ?_, .str _⟩
      simp only [if_true, Builtin.max2, Op.stringOp, toList_str, Sem.run_bind, Sem.run_pure, Result.andThen_ok, asBool]
      cases Op.bytesLess a b <;> rfl

theorem foldMM_ok {mx : Bool} {C : Ctx} (w : World) : ∀ {ys : List AV} {us : List Value} {x z : AV} {v : Value}, VRel C x v → LRel C ys us → foldMM mx x ys = some z →
    ∃ r, (us.foldlM (fun a b => if mx then Builtin.max2 a b else Builtin.min2 a b) v : Sem Value).run P w = .ok r w ∧ VRel C z r
  | [], us, x, z, v, hx, hl, h => by
    have := hl.1
    cases us with
    | nil => simp [foldMM] at h; subst h; exact ⟨v, rfl, hx⟩
    | cons => simp at this
  | y :: ys, us, x, z, v, hx, hl, h => by
    have := hl.1
    cases us with
    | nil => simp at this
    | cons u us =>
      simp only [foldMM] at h
      cases h2 : minmax2 mx x y with
      | none => simp [h2] at h
      | some q =>
        simp [h2] at h
        obtain ⟨r1, e1, g1⟩ := minmax2_ok (P := P) hx hl.head h2 w
        obtain ⟨r2, e2, g2⟩ := foldMM_ok w g1 hl.tail h
        exact ⟨r2, by rw [List.foldlM_cons, Sem.run_bind, e1]; exact e2, g2⟩

theorem bytesOf_ok {C : Ctx} (f : Value → ByteArray → Sem (ForInStep ByteArray)) (w : World) (hf : ∀ n s, (f (.int .u8 n) s).run P w = .ok (.yield (s.push (UInt8.ofNat n.toNat))) w) :
    ∀ {xs : List AV} {vs : List Value} {s : List UInt8}, LRel C xs vs → bytesOf xs = some s → ∀ (acc : ByteArray), (forIn vs acc f).run P w = .ok ⟨acc.data ++ s.toArray⟩ w
  | [], vs, s, hl, h, acc => by
    have := hl.1
    cases vs with
    | nil => simp [bytesOf] at h; subst h; simp
    | cons => simp at this
  | x :: xs, vs, s, hl, h, acc => by
    have := hl.1
    cases vs with
    | nil => simp at this
    | cons v vs =>
      have hv := hl.head
      have hx : ∃ n, x = .int .u8 n := by
        cases x with
        | int k n => cases k <;> first | exact ⟨n, rfl⟩ | simp [bytesOf] at h
        | _ => simp [bytesOf] at h
      obtain ⟨n, rfl⟩ := hx
      simp only [bytesOf] at h
      cases hb : bytesOf xs with
      | none => simp [hb] at h
      | some s' =>
        simp [hb] at h; subst h
        cases hv
        have ih := bytesOf_ok f w hf hl.tail hb (acc.push (UInt8.ofNat n.toNat))
        rw [List.forIn_cons]
        simp only [Sem.run_bind, hf, Result.andThen_ok, ih]
        congr 1
        apply ByteArray.ext
        simp [ByteArray.push]

theorem ofBytes_ok {x : AV} {v : Value} {xs : List AV} {s : List UInt8} (hw : WRel σ ρ w G) (hx : VRel (ctx σ ρ w G) x v) (hns : ∀ s, x ≠ .str s) (h : elemsOf σ 1 x = some xs) (hb : bytesOf xs = some s) :
    (Conv.bytesToString v).run P w = .ok (.string ⟨s.toArray⟩) w := by
  have hn : ∃ n, lenOf x = some n := by cases x <;> simp [elemsOf] at h <;> simp [lenOf]
  obtain ⟨n, hn⟩ := hn
  obtain ⟨hxl, new, hnew, hnr⟩ := elemsOf_ok (P := P) hw (by simp) hx h hn
  have h0 := hnew w.drawn
  have fin : ∀ (a : Addr) c, v = .slice (some a) n c → (Conv.bytesToString v).run P w = .ok (.string ⟨s.toArray⟩) w := by
    intro a c hv
    subst hv
    simp only [Builtin.firstCells, Nat.mul_one] at h0
    have h1 : (loadCells a n).run P w = .ok new w := h0
    simp only [Conv.bytesToString, Sem.run_bind, h1, Result.andThen_ok]
    rw [← Array.forIn_toList, bytesOf_ok (P := P) _ w (fun n s => by simp) hnr hb ByteArray.empty]
    simp only [Result.andThen_ok, Sem.run_pure]
    congr 2
    show (⟨(#[] : Array UInt8) ++ s.toArray⟩ : ByteArray) = _
    simp
  have nil : ∀ c, v = .slice none 0 c → s = [] → (Conv.bytesToString v).run P w = .ok (.string ⟨s.toArray⟩) w := by
    intro c hv hs
    subst hv; subst hs
    rfl
  have hs0 : n = 0 → s = [] := by
    intro h0
    subst h0
    have : xs = [] := by cases xs with | nil => rfl | cons => simp at hxl
    subst this
    simp [bytesOf] at hb; exact hb
  cases hx with
  | nilslice => simp [lenOf] at hn; exact nil 0 rfl (hs0 hn.symm)
  | slice id off len cap e' b o c i1 i2 i3 i4 i5 => simp [lenOf] at hn; subst hn; exact fin _ _ rfl
  | sliceNil id off cap e' a i1 i2 i3 i4 =>
    simp [lenOf] at hn
    cases a with
    | none => exact nil 0 rfl (hs0 hn.symm)
    | some a => subst hn; exact fin a 0 rfl
  | imm rows full nn b o c e' f i1 i2 i3 i4 i5 => simp [lenOf] at hn; subst hn; exact fin _ _ rfl
  | immNil full => simp [lenOf] at hn; exact nil 0 rfl (hs0 hn.symm)
  | immVoid full nn a0 => simp [lenOf] at hn; subst hn; exact fin a0 0 rfl
  | str s => exact absurd rfl (hns s)
  | brow => simp [elemsOf] at h
  | _ => simp [lenOf] at hn

theorem toBytes_ok {e : TypeId} {s : List UInt8} (hw : WRel σ ρ w G) : VOk P (Conv.stringToBytes e ⟨s.toArray⟩) σ ρ w G (.slice σ.length 0 s.length none 1) (hpush σ (s.map byteAV)) := by
  let cap := (Question.appendCap (⟨s.toArray⟩ : ByteArray).size 0 e).cut (w.tape w.drawn (.appendCap (⟨s.toArray⟩ : ByteArray).size 0 e))
  have hcap : s.length ≤ cap := by have := cut_ge (⟨s.toArray⟩ : ByteArray).size 0 e (w.tape w.drawn (.appendCap (⟨s.toArray⟩ : ByteArray).size 0 e)); rw [size_str] at this; simpa [cap, size_str] using this
  let cells : Array Value := (s.map fun b => Value.int .u8 (b.toNat : Int)).toArray ++ Array.replicate (cap - s.length) (.int .u8 0)
  have hsz : cells.size = cap := by simp [cells]; omega
  have hl : LRel (ctx σ ρ w G) (s.map byteAV) (s.map fun b => Value.int .u8 (b.toNat : Int)) := by
    refine ⟨by simp, fun i y u hy hu => ?_⟩
    simp at hy hu
    obtain ⟨b, h1, rfl⟩ := hy
    obtain ⟨b', h2, rfl⟩ := hu
    rw [h1] at h2; cases h2
    exact .int _ _
  obtain ⟨ρ', k1, k2, k3⟩ := newRow_ok (e := e) (cs := s.map byteAV) (c := cells) hw (by rw [hsz]; simpa using hcap) (fun i x hx => by
    have hlt := idx_lt hx
    rw [hl.1] at hlt
    refine ⟨(s.map fun b => Value.int .u8 (b.toNat : Int))[i], ?_, hl.2 i x _ hx (List.getElem?_eq_getElem hlt)⟩
    simp only [cells]
    rw [Array.getElem?_append_left (by simpa using hlt)]
    simpa using List.getElem?_eq_getElem hlt) (w.drawn + 1) (cap, cap + 1) ⟨by rw [hsz]; simp; omega, by simp⟩ s.length cap 1 none hcap (by simp) (by omega)
  refine ⟨_, _, ρ', ?_, k1, k2, k3⟩
  have hd : (⟨s.toArray⟩ : ByteArray).data.map (fun b => Value.int .u8 (b.toNat : Int)) = (s.map fun b => Value.int .u8 (b.toNat : Int)).toArray := by simp
  simp only [Conv.stringToBytes, Sem.run_bind, run_choose, Question.forced, Bool.false_eq_true, if_false, Result.andThen_ok, newRow, run_newObj, Sem.run_pure, hd, size_str]
  have hcc : (Question.appendCap s.length 0 e).cut (w.tape w.drawn (.appendCap s.length 0 e)) = cap := by simp [cap, size_str]
  rw [hcc]
  simp only [markStringish, Sem.run_bind, run_shape, Result.andThen_ok]
  have hshape : (World.shape? { w with heap := w.heap.push (.cells cells e (0, 0)), drawn := w.drawn + 1 } w.heap.size) = some (e, cap) := by
    simp [World.shape?, hsz]
  have hfr : (World.freeze { w with heap := w.heap.push (.cells cells e (0, 0)), drawn := w.drawn + 1 } ⟨w.heap.size, cap, none⟩ 1) = { w with heap := w.heap.push (.cells cells e (cap, cap + 1)), drawn := w.drawn + 1 } := by
    simp only [World.freeze, Nat.one_ne_zero, if_false]
    congr 1
    apply Array.ext
    · simp
    · intro i h1 h2
      simp only [Array.getElem_modify]
      simp at h2
      by_cases hi : i = w.heap.size
      · subst hi; simp
      · rw [if_neg (by omega)]
        rw [Array.getElem_push_lt (by omega), Array.getElem_push_lt (by omega)]
  rw [hshape]
  simp only [run_freeze, Result.andThen_ok]
  exact congrArg _ hfr

theorem freeze_heap (w : World) (a : Addr) (b : Nat) (hb : b ≠ a.block) : (w.freeze a 1).heap[b]? = w.heap[b]? := by
  simp only [World.freeze, Nat.one_ne_zero, if_false]
  rw [Array.getElem?_modify, if_neg (fun h => hb h.symm)]

theorem freeze_here (w : World) (a : Addr) {c : Array Value} {t : TypeId} {fr : Nat × Nat} (h : w.heap[a.block]? = some (.cells c t fr)) :
    (w.freeze a 1).heap[a.block]? = some (.cells c t (if fr.1 == fr.2 then (a.off, a.off + 1) else (min fr.1 a.off, max fr.2 (a.off + 1)))) := by
  simp only [World.freeze, Nat.one_ne_zero, if_false]
  rw [Array.getElem?_modify, if_pos rfl, h]
  rfl

theorem freeze_size (w : World) (a : Addr) : (w.freeze a 1).heap.size = w.heap.size := by
  simp [World.freeze]

/-- A block of the call's own is marked behind its end. -/
theorem mark_ok {id : Nat} {cs : List AV} (hw : WRel σ ρ w G) (h : σ[id]? = some (some cs)) (hn : (ρ id).nil = false) (o : Nat) :
    ∃ w', (markStringish ⟨(ρ id).blk, o, none⟩).run P w = .ok () w' ∧ WRel σ ρ w' G ∧ Keeps σ ρ w σ ρ w' := by
  obtain ⟨c, t, fr, k1, k2, k3, ⟨k4, k4'⟩, k5⟩ := hw.blk id cs h hn
  let a : Addr := ⟨(ρ id).blk, c.size, none⟩
  have hk : Keeps σ ρ w σ ρ (w.freeze a 1) := by
    refine ⟨rfl, rfl, rfl, by rw [freeze_size]; exact Nat.le_refl _, fun b hb' hno => freeze_heap w a b (fun e => hno ⟨id, cs, h, .inl hn, e.symm⟩), fun b hb => .inl hb, Nat.le_refl _, fun _ _ => rfl⟩
  refine ⟨w.freeze a 1, ?_, ⟨fun i k h' hn' => ?_, fun i k h' hn' => (hw.nil i k h' hn').of (fun x v hx => hx.keeps hw hk) (fun he => freeze_heap w a _ (fun e => by have := hw.excl _ _ _ _ h' h (.inr he) (.inl hn) e; subst this; rw [hn] at hn'; cases hn')), hw.excl, hw.sep, fun b hb => by rw [freeze_size]; exact hw.gsz b hb, hw.glob.keeps hk⟩, hk⟩
  · simp only [markStringish, Sem.run_bind, run_shape, Result.andThen_ok]
    have k1' : w.heap[(ρ id).blk]? = some (.cells c t fr) := k1
    have hshape : w.shape? (ρ id).blk = some (t, c.size) := by simp [World.shape?, k1']
    rw [hshape]
    simp only [run_freeze]
    rfl
  · by_cases hi : i = id
    · subst hi
      have e : k = cs := by rw [h] at h'; cases h'; rfl
      subst e
      refine ⟨c, t, _, freeze_here w a k1, k2, k3, ?_, fun j x hx => ?_⟩
      · by_cases hf : fr.1 = fr.2
        · simp [hf, a]; omega
        · have : c.size ≤ fr.1 := Nat.not_lt.1 fun hlt => k4 fr.1 hlt ⟨Nat.le_refl _, by omega⟩
          have e1 : (if fr.1 == fr.2 then (a.off, a.off + 1) else (min fr.1 a.off, max fr.2 (a.off + 1))) = (min fr.1 c.size, max fr.2 (c.size + 1)) := by simp [hf, a]
          rw [e1]
          refine ⟨fun j hj hh => ?_, ?_⟩
          · have := hh.1; simp only at this; omega
          · simp only; omega
      · obtain ⟨v, p, q⟩ := k5 j x hx
        exact ⟨v, p, q.keeps hw hk⟩
    · exact (hw.blk i k h' hn').of (fun x v hx => hx.keeps hw hk) (freeze_heap w a _ (fun e => hi (hw.excl _ _ _ _ h' h (.inl hn') (.inl hn) e)))

end
end Go.Gz
