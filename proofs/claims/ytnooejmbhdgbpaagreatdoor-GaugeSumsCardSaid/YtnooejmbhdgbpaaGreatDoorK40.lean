/- The operations of the library's own: how they come of the model's. -/
import Derived.Test.YtnooejmbhdgbpaaGreatDoorK42
import Derived.Lib.Builder
import Derived.Lib.UnsafeStr
import Derived.Laws.Externs
import Derived.KernelRfl
set_option linter.unusedVariables false
set_option linter.unusedSimpArgs false
namespace Go.Gz

section
variable {P : Program} {σ : AHeap} {ρ : Nat → Place} {w : World} {G : Nat → Prop}

theorem sizeT_cells {t : TypeId} {n : Nat} (h : sizeT P t = some n) : P.cellsOf t = n := by
  unfold sizeT at h; simp [Program.cellsOf, h]

/-- A pointer to a block of a type is one to such a type, however it is seen. -/
theorem lies_self {t : TypeId} {n : Nat} (h : P.cellsOf t = n) (hn : n ≠ 0) (count : Nat) (hc : 1 ≤ count) : liesAt P P.depth t count 0 t 1 = true := by
  have hd : P.depth = (2 * (P.types.size + Made.depth) + 1) + 1 := rfl
  rw [hd]
  simp only [liesAt, Bool.or_eq_true]
  left
  rw [hd]
  simp [rowAt, h, hn, sameLayout, hc]

theorem cast_ok {s d t : TypeId} {n : Nat} {x r : AV} {v : Value} {σ' : AHeap} (hw : WRel σ ρ w G) (hz : sizeT P t = some n)
    (hk : (P.underlying s = some (.pointer t) ∧ P.underlying d = some .unsafePointer) ∨ (P.underlying s = some .unsafePointer ∧ P.underlying d = some (.pointer t)))
    (hx : VRel (ctx σ ρ w G) x v) (h : evExt σ (.cast t n) [x] = some (r, σ')) : VOk P (convert s d v) σ ρ w G r σ' := by
  cases hx <;> simp only [evExt] at h <;> (try cases h)
  rename_i id t' h1 h2 h3 h4
  split at h
  case h_2 => cases h
  rename_i cs hcs
  split at h
  case isFalse => cases h
  rename_i hc
  obtain ⟨rfl, hn, hle⟩ := hc
  cases h
  obtain ⟨c, t0, fr, k1, k2, ⟨k3, k3'⟩, k4, k5⟩ := hw.blk id cs (hget_some hcs) h2
  simp only [ctx] at h3 h4
  have k1' : w.heap[(ρ id).blk]? = some (.cells c t0 fr) := k1
  have hsh : w.shape? (ρ id).blk = some (t, c.size) := by rw [← h3, k3']; simp [World.shape?, k1']
  rw [h4] at k2
  obtain ⟨j, hj, hjs⟩ := Option.map_eq_some_iff.1 hz
  rcases hk with ⟨e1, e2⟩ | ⟨e1, e2⟩
  · exact VOk.stay hw (Lib.run_to_unsafe (w := w) ⟨(ρ id).blk, 0, none⟩ e1 e2 hj (by rw [hjs]; exact hn) hsh (show 0 < c.size by omega)) (.bptr id t h1 h2 h3 h4)
  · have hce := sizeT_cells hz
    refine VOk.stay hw (Lib.run_from_unsafe (w := w) ⟨(ρ id).blk, 0, none⟩ e1 e2 hj hsh (lies_self hce hn _ ?_)) (.bptr id t h1 h2 h3 h4)
    rw [hce]; exact Nat.div_pos (by omega) (by omega)

theorem allocT_ok {e : TypeId} {z : List AV} (hw : WRel σ ρ w G) (hz : zeroT P e = some z) : VOk P (Instr.alloc e true (.tuple #[])) σ ρ w G (.bptr σ.length e) (hpush σ z) := by
  unfold zeroT at hz
  cases hi : P.info? e with
  | none => simp [hi] at hz
  | some i =>
    cases hzz : i.zero with
    | none => simp [hi, hzz] at hz
    | some v =>
      simp [hi, hzz] at hz
      have hl := ofVals_rel (C := ctx σ ρ w G) hz
      refine ⟨.pointer (some ⟨w.heap.size, 0, none⟩), { w with heap := w.heap.push (.cells v.cells e (0, 0)), drawn := w.drawn }, _, ?_, push_keeps hw z _ ⟨w.heap.size, 0, v.cells.size, false, e⟩ (fun _ => Nat.le_refl _) _,
        push_wrel hw z v.cells e (0, 0) _ (by simp) (by rw [hl.1]; simp) (fun i x hx => ?_), ?_⟩
      · simp [Instr.alloc, zeroValue, typeInfo, hi, hzz, newVar, newRow]
      · have hlt := idx_lt hx
        rw [hl.1] at hlt
        exact ⟨v.cells[i]'(by simpa using hlt), by simp at hlt; simp [hlt], hl.2 i x _ hx (by simp at hlt; simp [hlt])⟩
      · have := VRel.bptr (C := ctx (hpush σ z) (ext σ ρ ⟨w.heap.size, 0, v.cells.size, false, e⟩) { w with heap := w.heap.push (.cells v.cells e (0, 0)), drawn := w.drawn } G) σ.length e (by simp [ctx, hpush]) (by simp [ctx, ext_new]) (by simp [ctx, ext_new]) (by simp [ctx, ext_new])
        simpa [ctx, ext_new] using this

theorem newBrow_ok {e : TypeId} {cs : List AV} {c : Array Value} (hw : WRel σ ρ w G) (hl : cs.length ≤ c.size) (hc : ∀ (i : Nat) x, cs[i]? = some x → ∃ v, c[i]? = some v ∧ VRel (ctx σ ρ w G) x v) (d : Nat)
    (len cn : Nat) (h1 : len ≤ cn) (h3 : cn ≤ c.size) :
    ∃ ρ', Keeps σ ρ w (hpush σ cs) ρ' { w with heap := w.heap.push (.cells c e (0, 0)), drawn := d } ∧ WRel (hpush σ cs) ρ' { w with heap := w.heap.push (.cells c e (0, 0)), drawn := d } G ∧
      VRel (ctx (hpush σ cs) ρ' { w with heap := w.heap.push (.cells c e (0, 0)), drawn := d } G) (.brow σ.length len e) (.slice (some ⟨w.heap.size, 0, none⟩) len cn) := by
  refine ⟨_, push_keeps hw cs _ ⟨w.heap.size, 0, c.size, false, e⟩ (fun _ => Nat.le_refl _) d, push_wrel hw cs c e (0, 0) d (by simp) hl hc, ?_⟩
  have := VRel.brow (C := ctx (hpush σ cs) (ext σ ρ ⟨w.heap.size, 0, c.size, false, e⟩) { w with heap := w.heap.push (.cells c e (0, 0)), drawn := d } G) σ.length len e cn (by simp [ctx, hpush]) (by simp [ctx, ext_new]) (by simp [ctx, ext_new]) h1 (by simp [ctx, ext_new]; exact h3) (by simp [ctx, ext_new])
  simpa [ctx, ext_new] using this

/-- An append that makes a new row of bytes. -/
theorem growB_ok {t t2 e ty : TypeId} {d : TypeDesc} {n sLen sCap : Nat} {z old xs : List AV} {base : Option Addr} {vx : Value} {o new : Array Value} (hw : WRel σ ρ w G) (ht : P.underlying t = some (.slice e)) (h2 : P.underlying t2 = some d) (hd : ∀ k, d ≠ .int k)
    (hs : sizeT P e = some 1) (hb : bytesT P e = some 1) (hz : zeroT P e = some z) (hzl : z.length = 1)
    (hn : (Builtin.lenOf vx).run P w = .ok n w) (hnew : ∀ dr, (Builtin.firstCells 1 n vx).run P { w with drawn := dr } = .ok new { w with drawn := dr }) (hxs : LRel (ctx σ ρ w G) xs new.toList) (hxl : xs.length = n * 1)
    (hold : ∀ dr, (Builtin.firstCells 1 sLen (.slice base sLen sCap)).run P { w with drawn := dr } = .ok o { w with drawn := dr }) (hol : LRel (ctx σ ρ w G) old o.toList) (hll : old.length = sLen * 1)
    (hroom : sCap < sLen + n) (hg : mayGrow (sLen + n) 1 = true) :
    VOk P (Builtin.append_ #[t, t2] ty #[.slice base sLen sCap, vx]) σ ρ w G (.brow σ.length (sLen + n) e) (hpush σ (old ++ xs)) := by
  obtain ⟨cap, rest, dr, r1, r2, r3⟩ := run_append_out (ty := ty) ht h2 hd hs hb hz hzl (by simp) w hn hnew hold hroom hg
  obtain ⟨g1, g2⟩ := append_row (rest := rest) hol hxs
  have hsz : cap ≤ (o ++ new ++ rest).size := by
    have e1 := hol.1; have e2 := hxs.1
    simp at e1 e2
    simp only [Array.size_append, r2]
    omega
  obtain ⟨ρ', k1, k2, k3⟩ := newBrow_ok (e := e) hw g1 g2 dr (sLen + n) cap r1 hsz
  exact ⟨_, _, ρ', r3, k1, k2, k3⟩

theorem bapp_ok {t t2 e ty : TypeId} {z : List AV} {x y r : AV} {vs vx : Value} {σ' : AHeap} (hw : WRel σ ρ w G) (ht : P.underlying t = some (.slice e)) (h2 : P.underlying t2 = some .string)
    (hs : sizeT P e = some 1) (hb : bytesT P e = some 1) (hz : zeroT P e = some z) (hzl : z.length = 1)
    (hS : VRel (ctx σ ρ w G) x vs) (hX : VRel (ctx σ ρ w G) y vx) (h : evExt σ (.bapp e) [x, y] = some (r, σ')) :
    VOk P (Builtin.append_ #[t, t2] ty #[vs, vx]) σ ρ w G r σ' := by
  have hd : ∀ k, TypeDesc.string ≠ .int k := by intro k hk; cases hk
  cases hX with
  | str s =>
    have hX : VRel (ctx σ ρ w G) (.str s) (.string ⟨s.toArray⟩) := .str s
    have hn := lenOf_ok (P := P) hX (n := s.length) rfl w
    obtain ⟨hxl, new, hnew, hnr⟩ := elemsOf_ok (P := P) hw (by simp) hX (esz := 1) (xs := s.map byteAV) (by simp [elemsOf]) (n := s.length) rfl
    have hnew0 : (Builtin.firstCells 1 s.length (.string ⟨s.toArray⟩)).run P w = .ok new w := hnew w.drawn
    have hcell : (s.map byteAV).all (·.isCell) = true := by simp [List.all_eq_true, byteAV, AV.isCell]
    cases hS with
    | nilslice =>
      simp only [evExt] at h
      split at h
      · rename_i h0
        cases h
        subst h0
        have hne : new.toList = [] := by have := hnr.1; simp at this; simpa using this.symm
        exact VOk.stay hw (run_append_empty (ty := ty) ht h2 hd hs w hn hnew0 hne (Nat.le_refl _)) .nilslice
      · rename_i h0
        split at h
        case isFalse => cases h
        rename_i hg
        cases h
        have hp : 0 < s.length := by cases s with | nil => exact absurd rfl h0 | cons => simp
        have := growB_ok (ty := ty) (sLen := 0) (sCap := 0) (base := none) (old := []) (o := #[]) hw ht h2 hd hs hb hz hzl hn hnew hnr hxl (fun dr => by simp [Builtin.firstCells, loadCells, loadCellsFrom]) (.nil _) (by simp) (by omega) (by simpa using hg)
        simpa using this
    | brow id len t' c i1 i2 i3 i4 i5 i6 =>
      simp only [evExt] at h
      split at h
      case isFalse => cases h
      rename_i hg
      obtain ⟨rfl, hg⟩ := hg
      cases hgt : hget σ id with
      | none => simp [hgt] at h
      | some cs =>
        cases ho : sub cs 0 len with
        | none => simp [hgt, ho] at h
        | some old =>
          simp [hgt, ho] at h
          obtain ⟨rfl, rfl⟩ := h
          simp only [ctx] at i3 i5 i6
          have i5' : c ≤ (ρ id).ext := i5
          have hsl : VRel (ctx σ ρ w G) (.slice id 0 len (some c) 1) (.slice (some ⟨(ρ id).blk, 0, none⟩) len c) :=
            .slice id 0 len (some c) 1 _ _ c i1 i2 i4 (by simp) (fun _ => ⟨rfl, by simp only [ctx]; omega, by simp only [ctx]; omega⟩)
          obtain ⟨hol, oc, o1, o2⟩ := elemsOf_ok (P := P) hw (by simp) hsl (esz := 1) (xs := old) (by simp [elemsOf, hgt, ho]) rfl
          have hlen : (hkill σ id).length = σ.length := by simp [hkill]
          have kk := kill_keeps σ ρ w id
          have kw := kill_wrel hw id
          by_cases hroom : len + s.length ≤ c
          · have here : ∃ c0 c' t0 fr, w.heap[(ρ id).blk]? = some (.cells c0 t0 fr) ∧ c'.size = c0.size ∧ (∀ (i : Nat) x, (old ++ s.map byteAV)[i]? = some x → ∃ v, c'[(ρ id).off + i]? = some v ∧ VRel (ctx σ ρ w G) x v) ∧ (ρ id).off + (ρ id).ext ≤ c0.size ∧
                (Builtin.append_ #[t, t2] ty #[.slice (some ⟨(ρ id).blk, 0, none⟩) len c, .string ⟨s.toArray⟩]).run P w = .ok (.slice (some ⟨(ρ id).blk, 0, none⟩) (len + s.length) c) (w.setRow (ρ id).blk c') := by
              rcases Nat.eq_zero_or_pos c with hc0 | hc0
              · have hn0 : s.length = 0 := by omega
                have hl0 : len = 0 := by omega
                obtain ⟨c0, t0, fr, k1, k2, k3, k4, k5⟩ := hw.blk id cs (hget_some hgt) i2
                have k1' : w.heap[(ρ id).blk]? = some (.cells c0 t0 fr) := k1
                have hs0 : s = [] := by simpa using hn0
                subst hs0
                have hne : new.toList = [] := by have := hnr.1; simp at this; simpa using this.symm
                have ho0 : old = [] := by cases old with | nil => rfl | cons => simp at hol; omega
                subst ho0
                refine ⟨c0, c0, t0, fr, k1, rfl, by simp, k2, ?_⟩
                rw [setRow_self w (ρ id).blk c0 t0 fr k1']
                exact run_append_empty (ty := ty) ht h2 hd hs w hn hnew0 hne (by omega)
              · obtain ⟨c0, c', t0, fr, k1, k2, k3, k4, k5, k6⟩ := run_append_here (ty := ty) (by_ := 1) (cap := none) (old := []) (ncs := []) (b := 0) (o := 0) (e' := 0) (off := 0) hw ht h2 hd hs hn hnew0 hnr hxl hcell (hget_some hgt) i2 hc0 hroom (by omega)
                have hnl : new.toList.length = s.length * 1 := by rw [← hnr.1, hxl]
                refine ⟨c0, c', t0, fr, k1, k2, fun i y hy => ?_, k4, ?_⟩
                · rw [k3, List.getElem?_toArray, splice_idx _ _ _ _ (by rw [hnl]; simp; omega)]
                  rw [List.getElem?_append] at hy
                  split at hy
                  · rename_i hlt
                    rw [hol] at hlt
                    rw [if_neg (by omega)]
                    obtain ⟨u, u1, u2⟩ := k5 _ _ (sub_idx ho hy).1
                    exact ⟨u, by simpa using u1, u2⟩
                  · rename_i hge
                    rw [hol] at hge hy
                    have hlt := idx_lt hy
                    rw [hnr.1, hnl] at hlt
                    rw [if_pos (by omega), show (ρ id).off + i - ((ρ id).off + (0 + len * 1)) = i - len * 1 by omega]
                    exact ⟨new.toList[i - len * 1]'(by rw [hnl]; exact hlt), List.getElem?_eq_getElem _, hnr.2 _ _ _ hy (List.getElem?_eq_getElem _)⟩
                · rw [show (ρ id).off + 0 = 0 by omega] at k6; exact k6
            obtain ⟨c0, c', t0, fr, k1, k2, k3, k4, k6⟩ := here
            obtain ⟨s1, s2⟩ := move_ok (ncs := old ++ s.map byteAV) (c' := c') (po := (ρ id).off) (ex := (ρ id).ext) hw (hget_some hgt) i2 k1 k2 k4 (by rw [List.length_append, hol, hxl]; omega) k3
            refine ⟨_, _, _, k6, s2, s1, ?_⟩
            have en : ext (hkill σ id) ρ ⟨(ρ id).blk, (ρ id).off, (ρ id).ext, false, (ρ id).ty⟩ σ.length = ⟨(ρ id).blk, (ρ id).off, (ρ id).ext, false, (ρ id).ty⟩ := by rw [← hlen]; exact ext_new _ _ _
            have := VRel.brow (C := ctx (hpush (hkill σ id) (old ++ s.map byteAV)) (ext (hkill σ id) ρ ⟨(ρ id).blk, (ρ id).off, (ρ id).ext, false, (ρ id).ty⟩) (w.setRow (ρ id).blk c') G) σ.length (len + s.length) e c (by simp [ctx, hpush, hkill]) (by simp [ctx, en]) (by simp [ctx, en]; exact i3) hroom (by simp [ctx, en]; exact i5') (by simp [ctx, en]; exact i6)
            simpa [ctx, en] using this
          · have := growB_ok (ty := ty) (sLen := len) (sCap := c) (base := some ⟨(ρ id).blk, 0, none⟩) (old := old) (o := oc) kw ht h2 hd hs hb hz hzl hn hnew ⟨hnr.1, fun i y u hy hu => (hnr.2 i y u hy hu).keeps hw kk⟩ hxl o1 ⟨o2.1, fun i y u hy hu => (o2.2 i y u hy hu).keeps hw kk⟩ hol (by omega) hg
            obtain ⟨v, w', ρ', g1, g2, g3, g4⟩ := this
            exact ⟨v, w', ρ', g1, kk.trans g2, g3, by rw [hlen] at g4; exact g4⟩
    | _ => simp [evExt] at h
  | _ => cases hS <;> simp [evExt] at h

theorem sliceData_ok {x r : AV} {v : Value} {tys : Array TypeId} {ty : TypeId} {σ' : AHeap} (hw : WRel σ ρ w G) (hx : VRel (ctx σ ρ w G) x v) (h : evExt σ .sliceData [x] = some (r, σ')) :
    VOk P (Builtin.unsafeSliceData_ tys ty #[v]) σ ρ w G r σ' := by
  cases hx <;> simp only [evExt] at h <;> (try cases h)
  · exact VOk.stay hw rfl .nilptr
  · rename_i id len t c i1 i2 i4 i5 i6 i3
    split at h
    case isFalse => cases h
    rename_i hl
    cases h
    exact VOk.stay hw (v := .pointer (some ⟨(ρ id).blk, 0, none⟩)) (Lib.run_unsafeSliceData_row w _ _ _ _ _ (by omega)) (.bptr id _ i1 i2 (by assumption) (by assumption))

theorem loadBytes_ok {C : Ctx} : ∀ (xs : List AV) (s : List UInt8) (a : Addr) (acc : ByteArray), bytesOf xs = some s → (∀ (j : Nat) x, xs[j]? = some x → ∃ v, w.cell? (a.add j) = some v ∧ VRel C x v) →
    (loadBytes a acc xs.length).run P w = .ok ⟨acc.data ++ s.toArray⟩ w
  | [], s, a, acc, h, _ => by simp [bytesOf] at h; subst h; simp [loadBytes]
  | x :: xs, s, a, acc, h, hc => by
    have hx : ∃ n, x = .int .u8 n := by
      cases x with
      | int k n => cases k <;> first | exact ⟨n, rfl⟩ | simp [bytesOf] at h
      | _ => simp [bytesOf] at h
    obtain ⟨n, rfl⟩ := hx
    simp only [bytesOf] at h
    cases hb : bytesOf xs with
    | none => simp [hb] at h
    | some s' =>
      simp [hb] at h; subst h
      obtain ⟨v, h0, hv⟩ := hc 0 _ rfl
      cases hv
      have e0 : a.add 0 = a := by unfold Addr.add; split <;> simp_all
      rw [e0] at h0
      have ih := loadBytes_ok xs s' (a.add 1) (acc.push (UInt8.ofNat n.toNat)) hb (fun j y hy => by
        have := hc (j + 1) y (by simpa using hy)
        have e1 : (a.add 1).add j = a.add (j + 1) := by
          unfold Addr.add
          by_cases hj : j = 0
          · subst hj; simp
          · simp [hj]; omega
        rw [e1]; exact this)
      simp only [List.length_cons, loadBytes, Sem.run_bind, run_load, h0, Result.andThen]
      have e2 : (n.toNat).toUInt8 = UInt8.ofNat n.toNat := rfl
      rw [e2, ih]
      congr 1
      apply ByteArray.ext
      simp [ByteArray.push]

theorem freezeN_heap (w : World) (a : Addr) (n : Nat) (b : Nat) (hb : b ≠ a.block) : (w.freeze a n).heap[b]? = w.heap[b]? := by
  unfold World.freeze
  split
  · rfl
  · simp only []
    rw [Array.getElem?_modify, if_neg (fun h => hb h.symm)]

theorem freezeN_size (w : World) (a : Addr) (n : Nat) : (w.freeze a n).heap.size = w.heap.size := by
  unfold World.freeze
  split <;> simp

theorem freezeN_rest (w : World) (a : Addr) (n : Nat) : (w.freeze a n).os = w.os ∧ (w.freeze a n).tape = w.tape ∧ (w.freeze a n).output = w.output := by
  unfold World.freeze
  split <;> exact ⟨rfl, rfl, rfl⟩

/-- A block that is marked and let go. -/
theorem gone_ok {id : Nat} {cs : List AV} (hw : WRel σ ρ w G) (h : σ[id]? = some (some cs)) (hn : (ρ id).nil = false) (o n : Nat) :
    WRel (hkill σ id) ρ (w.freeze ⟨(ρ id).blk, o, none⟩ n) G ∧ Keeps σ ρ w (hkill σ id) ρ (w.freeze ⟨(ρ id).blk, o, none⟩ n) := by
  obtain ⟨r1, r2, r3⟩ := freezeN_rest w ⟨(ρ id).blk, o, none⟩ n
  have hk : Keeps σ ρ w (hkill σ id) ρ (w.freeze ⟨(ρ id).blk, o, none⟩ n) := by
    refine ⟨r1, r2, r3, by rw [freezeN_size]; exact Nat.le_refl _, fun b hb' hno => freezeN_heap w _ n b (fun e => hno ⟨id, cs, h, .inl hn, e.symm⟩), (kill_keeps σ ρ w id).own, by simp [hkill], fun _ _ => rfl⟩
  refine ⟨⟨fun i k h' hn' => ?_, fun i k h' hn' => (hw.nil i k (kill_idx h').2 hn').of (fun x v hx => hx.keeps hw hk) (fun he => freezeN_heap w _ n _ (fun e => (kill_idx h').1 (hw.excl _ _ _ _ (kill_idx h').2 h (.inr he) (.inl hn) e))), fun i i' k k' h' h'' => hw.excl i i' k k' (kill_idx h').2 (kill_idx h'').2, fun i k h' => hw.sep i k (kill_idx h').2, fun b hb => by rw [freezeN_size]; exact hw.gsz b hb, hw.glob.keeps hk⟩, hk⟩
  obtain ⟨g1, g2⟩ := kill_idx h'
  exact (hw.blk i k g2 hn').of (fun x v hx => hx.keeps hw hk) (freezeN_heap w _ n _ (fun e => g1 (hw.excl _ _ _ _ g2 h (.inl hn') (.inl hn) e)))

theorem uString_ok {pt it e ty : TypeId} {x y r : AV} {v u : Value} {σ' : AHeap} (hw : WRel σ ρ w G) (hp : P.underlying pt = some (.pointer e)) (hc : P.cellsOf e = 1)
    (hx : VRel (ctx σ ρ w G) x v) (hy : VRel (ctx σ ρ w G) y u) (h : evExt σ (.uString e) [x, y] = some (r, σ')) :
    VOk P (Builtin.unsafeString_ #[pt, it] ty #[v, u]) σ ρ w G r σ' := by
  cases hx with
  | nilptr =>
    cases hy with
    | int k n =>
      cases k <;> simp only [evExt] at h <;> (try cases h)
      split at h
      case isFalse => cases h
      rename_i h0
      subst h0
      cases h
      exact VOk.stay hw (Lib.run_unsafeString_none w pt it ty none) (.str [])
    | _ => simp [evExt] at h
  | bptr id t' i1 i2 i3 i6 =>
    cases hy with
    | int k n =>
      cases k <;> simp only [evExt] at h <;> (try cases h)
      split at h
      case isFalse => cases h
      rename_i h0
      obtain ⟨rfl, h0, hmg⟩ := h0
      cases hgt : hget σ id with
      | none => simp [hgt] at h
      | some cs =>
        cases ho : sub cs 0 n.toNat with
        | none => simp [hgt, ho] at h
        | some xs =>
          cases hb : bytesOf xs with
          | none => simp [hgt, ho, hb] at h
          | some s =>
            simp [hgt, ho, hb] at h
            obtain ⟨rfl, rfl⟩ := h
            obtain ⟨s1, s2⟩ := sub_some ho
            have hxl : xs.length = n.toNat := by rw [s2]; simp; omega
            obtain ⟨c, t0, fr, k1, k2, ⟨k3, k3'⟩, k4, k5⟩ := hw.blk id cs (hget_some hgt) i2
            have k1' : w.heap[(ρ id).blk]? = some (.cells c t0 fr) := k1
            have i3' : (ρ id).ty = e := i3
            have i6' : (ρ id).off = 0 := i6
            have hsh : w.shape? (ρ id).blk = some (e, c.size) := by rw [← i3', k3']; simp [World.shape?, k1']
            have hlb := loadBytes_ok (P := P) (w := w) (C := ctx σ ρ w G) xs s ⟨(ρ id).blk, 0, none⟩ .empty hb (fun j y hy => by
              obtain ⟨v', v1, v2⟩ := k5 _ _ (sub_idx ho hy).1
              refine ⟨v', ?_, v2⟩
              simp only [Addr.add]
              rw [i6'] at v1
              simp only [Nat.zero_add] at v1
              by_cases hj : j = 0
              · subst hj; simpa [World.cell?, k1'] using v1
              · simp [hj, World.cell?, k1', v1])
            rw [hxl] at hlb
            obtain ⟨g1, g2⟩ := gone_ok hw (hget_some hgt) i2 0 n.toNat
            refine ⟨.string ⟨s.toArray⟩, w.freeze ⟨(ρ id).blk, 0, none⟩ n.toNat, ρ, ?_, g2, g1, .str s⟩
            have hlies := Lib.liesAt_bytes (P := P) hc (c.size / P.cellsOf e) n.toNat (by rw [hc]; simp; omega)
            have hmax : IntKind.i64.max = 9223372036854775807 := rfl
            have hneg : ¬ n < 0 := by omega
            have hn0 : ¬ n = 0 := by omega
            have hbig : ¬ n > 9223372036854775807 := by simp [mayGrow] at hmg; omega
            have hn0' : n.toNat ≠ 0 := by omega
            have hdef : Builtin.unsafeString_ #[pt, it] ty #[.pointer (some ⟨(ρ id).blk, 0, none⟩), .int .i64 n] =
                (do
                  let n ← asInt (.int .i64 n)
                  if n < 0 then runtimePanic (.error "unsafe.String: len out of range")
                  if n > IntKind.i64.max then unsupported (.unsafePointer "String: a length above the largest int")
                  if n = 0 then pure (.string .empty)
                  else if ← variablesAt ⟨(ρ id).blk, 0, none⟩ (← elemOf pt) n.toNat then do
                    let s ← loadBytes ⟨(ρ id).blk, 0, none⟩ .empty n.toNat
                    freeze ⟨(ρ id).blk, 0, none⟩ n.toNat
                    pure (.string s)
                  else unsupported (.unsafePointer "String: not so many bytes at ptr")) := rfl
            show (Builtin.unsafeString_ #[pt, it] ty #[.pointer (some ⟨(ρ id).blk, 0, none⟩), .int .i64 n]).run P w = _
            rw [hdef]
            have he : (ByteArray.empty.data ++ s.toArray) = s.toArray := by simp
            simp only [asInt, asIntOf, Sem.run_bind, Sem.run_pure, Result.andThen_ok, hmax, if_neg hneg, if_neg hbig, if_neg hn0, variablesAt, run_shape, hsh, elemOf, run_underlying_of hp, run_program, hlies, if_true, hlb, run_freeze, he]
    | _ => simp [evExt] at h
  | _ => cases hy <;> simp [evExt] at h

theorem noEscape_find (fn : Func) (h1 : fn.name = "internal/abi.NoEscape") (h2 : fn.origin = "") : Extern.findNext fn = none ∧ Extern.find fn = some Extern.AbiNoEscape.same := by
  cases fn with
  | mk name origin targs params rt nfree ntmps results body norace ours =>
    simp only at h1 h2
    subst h1; subst h2
    exact ⟨by kernel_rfl, by kernel_rfl⟩

theorem noEscape_run {f : FuncId} (h : bodyless P f "internal/abi.NoEscape" = true) (v : Value) (w : World) : (callFunc f #[v]).run P w = .ok (.value v) w := by
  unfold bodyless at h
  split at h
  case h_2 => cases h
  rename_i fn hf
  simp only [Bool.and_eq_true, beq_iff_eq] at h
  obtain ⟨⟨h1, h2⟩, h3⟩ := h
  obtain ⟨k1, k2⟩ := noEscape_find fn h2 h3
  rw [run_callFunc_extern hf (by rw [h2]; decide) h1 k1 k2, Lib.run_noEscape]
  rfl

theorem nili_ok {t : TypeId} {q : Array (String × TypeId)} {x z : AV} {v : Value} {op : BinOp} {C : Ctx} (hx : VRel C x v) (h : abin op .nili x .nilif = some z) (he : P.underlying t = some (.interface q)) (ox : Operand) (w : World) :
    ∃ r, (do eqGuard op t ox (.const .nilIface) v .nilIface; binOp op t v .nilIface : Sem Value).run P w = .ok r w ∧ VRel C z r := by
  have run := run_underlying_of he w
  have eqs : ∀ b, eqBin .nili x .nilif = some b → (Op.equal t v .nilIface).run P w = .ok b w ∧ (v = .nilIface ∨ ∃ a c, v = .iface a c) := by
    intro b hb
    have e0 : ∀ d, (Op.equalIn (d + 1) t v .nilIface).run P w = .ok b w ∧ (v = .nilIface ∨ ∃ a c, v = .iface a c) := by
      intro d
      cases hx <;> simp only [eqBin, nilEqI] at hb <;> cases hb
      · exact ⟨by simp [Op.equalIn, run], .inl rfl⟩
      · exact ⟨by simp [Op.equalIn, run], .inr ⟨_, _, rfl⟩⟩
    exact e0 9999
  have guard : ∀ op, (v = .nilIface ∨ ∃ a c, v = .iface a c) → (eqGuard op t ox (.const .nilIface) v .nilIface).run P w = .ok () w := by
    intro op hv
    rcases hv with rfl | ⟨a, c, rfl⟩ <;> cases op <;> simp [eqGuard]
  generalize hy : AV.nilif = y at h
  unfold abin at h
  split at h
  · cases hy
  · cases hy
  · rename_i hn1 hn2
    subst hy
    split at h
    · cases he : eqBin .nili x .nilif with
      | none => simp [he] at h
      | some b =>
        simp [he] at h; subst h
        obtain ⟨h1, h3⟩ := eqs b he
        refine ⟨.bool b, ?_, .bool _⟩
        simp only [Sem.run_bind, guard .eql h3, Result.andThen_ok]
        have : (binOp .eql t v .nilIface).run P w = ((Op.equal t v .nilIface).run P w).andThen fun b w' => .ok (.bool b) w' := by
          rcases h3 with rfl | ⟨a, c, rfl⟩ <;> simp [binOp]
        rw [this, h1]; rfl
    · cases he : eqBin .nili x .nilif with
      | none => simp [he] at h
      | some b =>
        simp [he] at h; subst h
        obtain ⟨h1, h3⟩ := eqs b he
        refine ⟨.bool (!b), ?_, .bool _⟩
        simp only [Sem.run_bind, guard .neq h3, Result.andThen_ok]
        have : (binOp .neq t v .nilIface).run P w = ((Op.equal t v .nilIface).run P w).andThen fun b w' => .ok (.bool (!b)) w' := by
          rcases h3 with rfl | ⟨a, c, rfl⟩ <;> simp [binOp]
        rw [this, h1]; rfl
    · cases h

end

section
variable {P : Program} {σ : AHeap} {ρ : Nat → Place} {w : World} {G : Nat → Prop} {N : Nat} {e : Env} {a : Act}

theorem lrel1 {C : Ctx} {x : AV} {vs : List Value} (h : LRel C [x] vs) : ∃ v, vs = [v] ∧ VRel C x v := by
  match vs, h with
  | [], h => have := h.1; simp at this
  | [v], h => exact ⟨v, rfl, h.head⟩
  | _ :: _ :: _, h => have := h.1; simp at this

theorem lrel2 {C : Ctx} {x y : AV} {vs : List Value} (h : LRel C [x, y] vs) : ∃ v u, vs = [v, u] ∧ VRel C x v ∧ VRel C y u := by
  match vs, h with
  | [], h => have := h.1; simp at this
  | [_], h => have := h.1; simp at this
  | [v, u], h => exact ⟨v, u, rfl, h.head, h.tail.head⟩
  | _ :: _ :: _ :: _, h => have := h.1; simp at this

theorem pre_ok {o : Oper} {m : MOp} {x : AV} {σ' : AHeap} (hc : cPre P N o.op = some m) (hw : WRel σ ρ w G) (he : EnvRel (ctx σ ρ w G) N e a) (h : evOp (Opd.ev e) σ m = some (x, σ')) :
    OpOk P (execOp a.eval o) σ ρ w G x σ' := by
  obtain ⟨dst, op, ty, pos, after, guard⟩ := o
  simp only at hc
  unfold cPre at hc
  split at hc
  · rename_i el
    split at hc
    case isFalse => cases hc
    cases hz : zeroT P el with
    | none => simp [hz] at hc
    | some z =>
      simp [hz] at hc; subst hc
      simp only [evOp, List.map_nil, evExt] at h
      cases h
      exact (allocT_ok hw hz).op
  · cases hc

theorem new_ok {o : Oper} {m : MOp} {x : AV} {σ' : AHeap} (hc : cNew P N o.op = some m) (hw : WRel σ ρ w G) (he : EnvRel (ctx σ ρ w G) N e a) (h : evOp (Opd.ev e) σ m = some (x, σ')) :
    OpOk P (execOp a.eval o) σ ρ w G x σ' := by
  obtain ⟨dst, op, ty, pos, after, guard⟩ := o
  simp only at hc
  unfold cNew at hc
  split at hc
  · rename_i op t xo fb
    have fin : ∀ z, cOpd N xo = some z → ∀ q, P.underlying t = some (.interface q) → (op = .eql ∨ op = .neq) → m = .bin op .nili z (.c .nilif) → OpOk P (execOp a.eval ⟨dst, .binOp op t xo (.const .nilIface) fb, ty, pos, after, guard⟩) σ ρ w G x σ' := by
      intro z hz q hq hop hm
      subst hm
      have hr := cOpd_rel hz he
      simp only [evOp] at h
      obtain ⟨rfl, r, hr2, rfl⟩ := map_pair (f := fun y => y) h
      exact VOk.op (VOk.ex hw (nili_ok hr hr2 hq xo w))
    split at hc
    · rename_i q z h1 h3; cases hc; exact fin _ h3 _ h1 (.inl rfl) rfl
    · rename_i q z h1 h3; cases hc; exact fin _ h3 _ h1 (.inr rfl) rfl
    · cases hc
  · rename_i s d xo
    split at hc
    · rename_i t z h1 h2 h3
      cases hz : sizeT P t with
      | none => simp [hz] at hc
      | some n =>
        simp [hz] at hc; subst hc
        simp only [evOp, List.map_cons, List.map_nil] at h
        have := VOk.op (cast_ok hw hz (.inl ⟨h1, h2⟩) (cOpd_rel h3 he) h)
        unfold OpOk at this ⊢
        exact this
    · rename_i t z h1 h2 h3
      cases hz : sizeT P t with
      | none => simp [hz] at hc
      | some n =>
        simp [hz] at hc; subst hc
        simp only [evOp, List.map_cons, List.map_nil] at h
        have := VOk.op (cast_ok hw hz (.inr ⟨h1, h2⟩) (cOpd_rel h3 he) h)
        unfold OpOk at this ⊢
        exact this
    · cases hc
  · rename_i t
    cases hz : mapT P t with
    | none => simp [hz] at hc
    | some q =>
      simp [hz] at hc; subst hc
      simp only [evOp, List.map_nil, evExt] at h
      cases h
      have := (mkMap_ok (P := P) (t := t) hw).op
      unfold OpOk at this ⊢
      exact this
  · rename_i t xo io ok
    split at hc
    · rename_i kk z x' y' h1 h2 h3
      cases hc
      simp only [evOp, List.map_cons, List.map_nil] at h
      have := (look_ok hw h1 (cOpd_rel h2 he) (cOpd_rel h3 he) h).op
      unfold OpOk at this ⊢
      exact this
    · cases hc
  · rename_i t mo ko xo
    split at hc
    · rename_i kk z m' k' x' h1 h2 h3 h4
      cases hc
      simp only [evOp, List.map_cons, List.map_nil] at h
      obtain ⟨rfl, w', r1, r2, r3⟩ := mset_ok hw h1 (cOpd_rel h2 he) (cOpd_rel h3 he) (cOpd_rel h4 he) h
      exact ⟨undef, w', ρ, .inr ⟨by simp [execOp, r1], rfl⟩, r2, r3, .unk _⟩
    · cases hc
  · rename_i t mo ko xo
    split at hc
    · rename_i kk z m' k' x' h1 h2 h3 h4
      cases hc
      simp only [evOp, List.map_cons, List.map_nil] at h
      obtain ⟨rfl, w', r1, r2, r3⟩ := mset_ok hw h1 (cOpd_rel h2 he) (cOpd_rel h3 he) (cOpd_rel h4 he) h
      exact ⟨undef, w', ρ, .inr ⟨by simp [execOp, r1], rfl⟩, r2, r3, .unk _⟩
    · cases hc
  · rename_i c
    split at hc
    · rename_i f xs hcal hxs
      split at hc
      · rename_i hb
        cases hc
        have hr := cOpds_rel he hxs
        simp only [evOp] at h
        obtain ⟨z, hz⟩ : ∃ z, xs.map (Opd.ev e) = [z] := by
          generalize xs.map (Opd.ev e) = l at h
          match l, h with
          | [], h => simp [evExt] at h
          | [z], h => exact ⟨z, rfl⟩
          | _ :: _ :: _, h => simp [evExt] at h
        rw [hz] at hr h
        simp only [evExt] at h
        cases h
        obtain ⟨v, hv, hl⟩ := lrel1 hr
        refine OpOk.stay hw (v := v) ?_ hl
        have e2 : c.args.map a.eval = #[v] := by rw [← Array.toList_inj]; simpa using hv
        simp only [execOp, resolve, hcal, Act.eval, Deferred.ofValue, Sem.run_bind, Sem.run_pure, Result.andThen_ok, invoke]
        have := noEscape_run hb v w
        simpa [e2] using this
      · cases hc
    · rename_i xs hcal hxs
      cases hc
      have hr := cOpds_rel he hxs
      simp only [evOp] at h
      obtain ⟨z, hz⟩ : ∃ z, xs.map (Opd.ev e) = [z] := by
        generalize xs.map (Opd.ev e) = l at h
        match l, h with
        | [], h => simp [evExt] at h
        | [z], h => exact ⟨z, rfl⟩
        | _ :: _ :: _, h => simp [evExt] at h
      rw [hz] at hr h
      obtain ⟨v, hv, hl⟩ := lrel1 hr
      have e2 : c.args.map a.eval = #[v] := by rw [← Array.toList_inj]; simpa using hv
      have := VOk.op (sliceData_ok (P := P) (tys := c.argTypes) (ty := ty) hw hl h)
      unfold OpOk at this ⊢
      have e1 : (execOp a.eval ⟨dst, .call c, ty, pos, after, guard⟩).run P w = (builtin .unsafeSliceData c.argTypes ty (c.args.map fun | .const _ => true | _ => false) #[v]).run P w := by
        simp only [execOp, resolve, hcal, Sem.run_bind, Sem.run_pure, Result.andThen_ok, invoke, e2]
        rfl
      rw [e1]
      exact this
    · rename_i xs hcal hxs
      split at hc
      · rename_i t htys
        cases hz : mapT P t with
        | none => simp [hz] at hc
        | some q =>
          obtain ⟨kk, z⟩ := q
          simp [hz] at hc; subst hc
          have hr := cOpds_rel he hxs
          simp only [evOp] at h
          obtain ⟨y, hy⟩ : ∃ y, xs.map (Opd.ev e) = [y] := by
            generalize xs.map (Opd.ev e) = l at h
            match l, h with
            | [], h => simp [evExt] at h
            | [y], h => exact ⟨y, rfl⟩
            | _ :: _ :: _, h => simp [evExt] at h
          rw [hy] at hr h
          obtain ⟨v, hv, hl⟩ := lrel1 hr
          have e2 : c.args.map a.eval = #[v] := by rw [← Array.toList_inj]; simpa using hv
          have e3 : c.argTypes = #[t] := by rw [← Array.toList_inj]; simp [htys]
          have := VOk.op (mlen_ok (ty := ty) hw hz hl h)
          unfold OpOk at this ⊢
          have e1 : (execOp a.eval ⟨dst, .call c, ty, pos, after, guard⟩).run P w = (builtin .len #[t] ty (c.args.map fun | .const _ => true | _ => false) #[v]).run P w := by
            simp only [execOp, resolve, hcal, Sem.run_bind, Sem.run_pure, Result.andThen_ok, invoke, e2, e3]
            rfl
          rw [e1]
          exact this
      · cases hc
    · rename_i xs hcal hxs
      split at hc
      · rename_i pt it htys
        split at hc
        · rename_i el hp
          split at hc
          · rename_i hh
            cases hc
            have hr := cOpds_rel he hxs
            simp only [evOp] at h
            obtain ⟨z, z', hz⟩ : ∃ z z', xs.map (Opd.ev e) = [z, z'] := by
              generalize xs.map (Opd.ev e) = l at h
              match l, h with
              | [], h => simp [evExt] at h
              | [_], h => simp [evExt] at h
              | [z, z'], h => exact ⟨z, z', rfl⟩
              | _ :: _ :: _ :: _, h => simp [evExt] at h
            rw [hz] at hr h
            obtain ⟨v, u, hv, hl, hl'⟩ := lrel2 hr
            have e2 : c.args.map a.eval = #[v, u] := by rw [← Array.toList_inj]; simpa using hv
            have e3 : c.argTypes = #[pt, it] := by rw [← Array.toList_inj]; simp [htys]
            simp only [Bool.and_eq_true, beq_iff_eq] at hh
            have := VOk.op (uString_ok (pt := pt) (it := it) (ty := ty) hw hp hh.2 hl hl' h)
            unfold OpOk at this ⊢
            have e1 : (execOp a.eval ⟨dst, .call c, ty, pos, after, guard⟩).run P w = (builtin .unsafeString #[pt, it] ty (c.args.map fun | .const _ => true | _ => false) #[v, u]).run P w := by
              simp only [execOp, resolve, hcal, Sem.run_bind, Sem.run_pure, Result.andThen_ok, invoke, e2, e3]
              rfl
            rw [e1]
            exact this
          · cases hc
        · cases hc
      · cases hc
    · cases hc
  · cases hc

end
end Go.Gz
