/- Maps: made, looked up, written: what the model does is what the abstract operations say. -/
import Derived.Test.YtnooejmbhdgbpaaGreatDoorK12
import Derived.MapKept
set_option linter.unusedVariables false
set_option linter.unusedSimpArgs false
namespace Go.Gz
section
variable {P : Program} {σ : AHeap} {ρ : Nat → Place} {w : World} {G : Nat → Prop}

def keyD : FK → TypeDesc → Prop
  | .b, .bool => True
  | .i, .int _ => True
  | .s, .string => True
  | _, _ => False

theorem keyD_of {t : TypeId} {kk : FK} (h : keyKind P t = some kk) : ∃ d, P.underlying t = some d ∧ keyD kk d := by
  unfold keyKind at h
  split at h <;> cases h
  all_goals rename_i hd; exact ⟨_, hd, trivial⟩

theorem run_checkKey_any {kt : TypeId} {d : TypeDesc} {kk : FK} (hd : P.underlying kt = some d) (hk : keyD kk d) (e : Bool) (n : Nat) (k : Value) (w : World) : (Instr.checkKey e (n + 1) kt k).run P w = .ok () w := by
  unfold Instr.checkKey
  simp only [Sem.run_bind, run_underlying hd, Result.andThen]
  cases kk <;> cases d <;> simp [keyD] at hk <;> cases k <;> rfl

theorem bytes_beq (a b : List UInt8) : ((⟨a.toArray⟩ : ByteArray) == ⟨b.toArray⟩) = (a == b) := by
  rw [Bool.eq_iff_iff, MapKept.bytes_beq, beq_iff_eq]
  constructor
  · intro h; have := congrArg (fun x : ByteArray => x.data.toList) h; simpa using this
  · rintro rfl; rfl

theorem baseEq_same {C : Ctx} {kk : FK} {d : TypeDesc} {x y : AV} {v u : Value} {b : Bool} (hd : keyD kk d) (hx : VRel C x v) (hy : VRel C y u) (h : baseEq kk x y = some b) : Instr.sameNow d v u = some b ∧ (b = true → v = u) := by
  unfold baseEq at h
  split at h
  · cases hx; cases hy; cases d <;> simp [keyD] at hd
    cases h
    exact ⟨rfl, fun h => by simp at h; rw [h]⟩
  · split at h
    · rename_i hk
      subst hk
      cases hx; cases hy; cases d <;> simp [keyD] at hd
      cases h
      refine ⟨by simp [Instr.sameNow], fun h => by simp at h; rw [h]⟩
    · cases h
  · rename_i a c
    cases hx; cases hy; cases d <;> simp [keyD] at hd
    cases h
    refine ⟨by simp only [Instr.sameNow]; rw [bytes_beq], fun h => by simp at h; rw [h]⟩
  · cases h

/-- Where a key is found, or that it is not. -/
theorem mfind_ok {C : Ctx} {kk : FK} {d : TypeDesc} {k : AV} {key : Value} (hd : keyD kk d) (hk : VRel C k key) :
    ∀ {cs : List AV} {es : List MapEntry} {i : Nat} {r : Option (Nat × AV)}, LRel C cs (es.map fun e => .tuple #[e.key, e.val]) → mfind kk k cs i = some r →
      (r = none ∧ Instr.findNow d key es i = some none) ∨ ∃ j x e, r = some (i + j, x) ∧ Instr.findNow d key es i = some (some (i + j, e.val)) ∧ es[j]? = some e ∧ e.key = key ∧ VRel C x e.val
  | [], es, i, r, hl, h => by
    simp only [mfind] at h; cases h
    have : es = [] := by have := hl.1; cases es with | nil => rfl | cons => simp at this
    subst this
    exact .inl ⟨rfl, rfl⟩
  | c :: cs, es, i, r, hl, h => by
    cases es with
    | nil => have := hl.1; simp at this
    | cons e es =>
      have hc := hl.head
      have ht := hl.tail
      obtain ⟨k', v, rfl⟩ : ∃ k' v, c = .tuple [k', v] := by
        unfold mfind at h
        split at h
        · rename_i heq; cases heq
        · rename_i heq; cases heq; exact ⟨_, _, rfl⟩
        · cases h
      simp only [mfind] at h
      obtain ⟨vs, hvs, hv2⟩ := hc.tuple_inv
      cases hvs
      have hk' := hv2.head
      have hv' := hv2.tail.head
      cases hb : baseEq kk k k' with
      | none => simp [hb] at h
      | some b =>
        obtain ⟨s1, s2⟩ := baseEq_same hd hk hk' hb
        cases b with
        | true =>
          simp [hb] at h; subst h
          exact .inr ⟨0, v, e, rfl, by simp [Instr.findNow, s1], rfl, (s2 rfl).symm, hv'⟩
        | false =>
          simp [hb] at h
          rcases mfind_ok hd hk ht h with ⟨r1, r2⟩ | ⟨j, x, e', r1, r2, r3, r4, r5⟩
          · exact .inl ⟨r1, by simp [Instr.findNow, s1, r2]⟩
          · exact .inr ⟨j + 1, x, e', by rw [r1]; congr 2; omega, by simp [Instr.findNow, s1, r2]; omega, by simpa using r3, r4, r5⟩

theorem hget_lt' {id : Nat} {cs : List AV} (h : hget σ id = some cs) : id < σ.length := idx_lt (hget_some h)

/-- A map's block, as it lies in the world. -/
theorem map_blk (hw : WRel σ ρ w G) {id : Nat} {cs : List AV} (h : hget σ id = some cs) (hn : (ρ id).nil = true) (he : (ρ id).ext = 1) : MapBlk (ctx σ ρ w G) (ρ id) cs :=
  (hw.nil id cs (hget_some h) hn).1 he

theorem zeroV_run {e : TypeId} {z : AV} (h : zeroV P e = some z) (C : Ctx) (w : World) : ∃ v, (zeroValue e).run P w = .ok v w ∧ VRel C z v := by
  unfold zeroV at h
  cases hi : P.info? e with
  | none => simp [hi] at h
  | some i =>
    cases hzz : i.zero with
    | none => simp [hi, hzz] at h
    | some v => simp [hi, hzz] at h; exact ⟨v, by simp [zeroValue, typeInfo, hi, hzz], ofVal_rel h⟩

theorem mapT_of {t : TypeId} {kk : FK} {z : AV} (h : mapT P t = some (kk, z)) : ∃ k e, P.underlying t = some (.map k e) ∧ keyKind P k = some kk ∧ zeroV P e = some z := by
  unfold mapT at h
  split at h
  · rename_i k e ht
    split at h
    · rename_i h1 h2; cases h; exact ⟨k, e, ht, h1, h2⟩
    · cases h
  · cases h

theorem found_rel {C : Ctx} {z : AV} {ok : Bool} {zv : Value} (hz : VRel C z zv) : VRel C (found z ok none) (if ok then .tuple #[zv, .bool false] else zv) := by
  cases ok with
  | true => exact LRel.tuple (.cons hz (.cons (.bool false) (.nil C)))
  | false => exact hz

theorem found_rel' {C : Ctx} {z x : AV} {i : Nat} {ok : Bool} {v : Value} (hv : VRel C x v) : VRel C (found z ok (some (i, x))) (if ok then .tuple #[v, .bool true] else v) := by
  cases ok with
  | true => exact LRel.tuple (.cons hv (.cons (.bool true) (.nil C)))
  | false => exact hv

theorem look_ok {t : TypeId} {kk : FK} {z x y r : AV} {ok : Bool} {m key : Value} {σ' : AHeap} (hw : WRel σ ρ w G) (ht : mapT P t = some (kk, z)) (hx : VRel (ctx σ ρ w G) x m) (hy : VRel (ctx σ ρ w G) y key)
    (h : evExt σ (.look kk z ok) [x, y] = some (r, σ')) : VOk P (Instr.lookup t m key ok) σ ρ w G r σ' := by
  obtain ⟨k, e, h1, h2, h3⟩ := mapT_of ht
  obtain ⟨d, d1, d2⟩ := keyD_of h2
  obtain ⟨zv, z1, z2⟩ := zeroV_run h3 (ctx σ ρ w G) w
  cases hx <;> simp only [evExt] at h <;> (try cases h)
  · rename_i id i1 i2 i3
    cases hb : baseEq kk y y with
    | none => simp [hb] at h
    | some bb =>
      cases hg : hget σ id with
      | none => simp [hb, hg] at h
      | some cs =>
        cases hm : mfind kk y cs 0 with
        | none => simp [hb, hg, hm] at h
        | some q =>
          simp [hb, hg, hm] at h
          obtain ⟨rfl, rfl⟩ := h
          obtain ⟨es, ck, k1, k2, k3, k4⟩ := map_blk hw hg i2 i3
          have k1' : w.heap[(ρ id).blk]? = some (.map es ck) := k1
          rcases mfind_ok d2 hy k2 hm with ⟨rfl, r2⟩ | ⟨j, u, en, rfl, r2, r3, r4, r5⟩
          · refine VOk.stay hw (v := if ok then .tuple #[zv, .bool false] else zv) ?_ (found_rel z2)
            show (Instr.lookup t (.map (some (ρ id).blk)) key ok).run P w = _
            simp [Instr.lookup, run_underlying h1, MapKept.run_getObj_map k1', run_checkKey_any d1 d2, MapKept.run_findKey d1 r2, z1, Result.andThen]
          · refine VOk.stay hw (v := if ok then .tuple #[en.val, .bool true] else en.val) ?_ (found_rel' r5)
            show (Instr.lookup t (.map (some (ρ id).blk)) key ok).run P w = _
            simp [Instr.lookup, run_underlying h1, MapKept.run_getObj_map k1', run_checkKey_any d1 d2, MapKept.run_findKey d1 r2, Result.andThen]
  · cases hb : baseEq kk y y with
    | none => simp [hb] at h
    | some bb =>
      simp [hb] at h
      obtain ⟨rfl, rfl⟩ := h
      refine VOk.stay hw (v := if ok then .tuple #[zv, .bool false] else zv) ?_ (found_rel z2)
      have hf : Instr.findNow d key [] 0 = some none := rfl
      simp [Instr.lookup, run_underlying h1, run_checkKey_any d1 d2, MapKept.run_findKey d1 hf, z1, Result.andThen]

/-- A map of the call's own is written over. -/
theorem set_map_wrel (hw : WRel σ ρ w G) {id : Nat} {old cells : List AV} {es es' : Array MapEntry} {ck ck' : Nat} (h : σ[id]? = some (some old)) (hn : (ρ id).nil = true) (he : (ρ id).ext = 1)
    (hb : w.heap[(ρ id).blk]? = some (.map es ck)) (hl : LRel (ctx σ ρ w G) cells (es'.toList.map fun e => .tuple #[e.key, e.val]))
    (h3 : ∀ (i : Nat) e, es'[i]? = some e → e.born < ck') (h4 : ∀ (i j : Nat) e f, es'[i]? = some e → es'[j]? = some f → e.born = f.born → i = j) :
    WRel (hset σ id cells) ρ { w with heap := w.heap.setIfInBounds (ρ id).blk (.map es' ck') } G ∧ Keeps σ ρ w (hset σ id cells) ρ { w with heap := w.heap.setIfInBounds (ρ id).blk (.map es' ck') } := by
  obtain ⟨g1, g2⟩ := MapKept.heap_set (o' := .map es' ck') hb
  have hk : Keeps σ ρ w (hset σ id cells) ρ { w with heap := w.heap.setIfInBounds (ρ id).blk (.map es' ck') } := by
    refine ⟨rfl, rfl, rfl, by simp, fun b hb' hno => ?_, fun b hb' => ?_, by simp [hset], fun _ _ => rfl⟩
    · exact g2 b (fun e => hno ⟨id, old, h, .inr he, e.symm⟩)
    · obtain ⟨i, k, h1, h2, h3⟩ := hb'
      rcases set_idx h1 with ⟨hi, h1⟩ | ⟨rfl, rfl⟩
      · exact .inl ⟨i, k, h1, h2, h3⟩
      · exact .inl ⟨i, old, h, h2, h3⟩
  refine ⟨⟨fun i cs h' hn' => ?_, fun i cs h' hn' => ?_, fun i i' cs cs' h1 h2 hn1 hn2 he => ?_, fun i cs h' hn' => ?_, fun b hb' => ?_, hw.glob.keeps hk⟩, hk⟩
  · rcases set_idx h' with ⟨hi, h1⟩ | ⟨rfl, rfl⟩
    · exact (hw.blk i cs h1 hn').of (fun x v hx => hx.keeps hw hk) (g2 _ (fun e => hi (hw.excl _ _ _ _ h1 h (.inl hn') (.inr he) e)))
    · rw [hn] at hn'; cases hn'
  · rcases set_idx h' with ⟨hi, h1⟩ | ⟨rfl, rfl⟩
    · exact (hw.nil i cs h1 hn').of (fun x v hx => hx.keeps hw hk) (fun he' => g2 _ (fun e => hi (hw.excl _ _ _ _ h1 h (.inr he') (.inr he) e)))
    · exact ⟨fun _ => ⟨es', ck', g1, ⟨hl.1, fun i x v hx hv => (hl.2 i x v hx hv).keeps hw hk⟩, h3, h4⟩, fun hne => absurd he hne⟩
  · have g : ∀ {j : Nat} {k : List AV}, (hset σ id cells)[j]? = some (some k) → ∃ k', σ[j]? = some (some k') := by
      intro j k hj
      rcases set_idx hj with ⟨_, h1⟩ | ⟨rfl, rfl⟩
      · exact ⟨_, h1⟩
      · exact ⟨_, h⟩
    obtain ⟨k1, e1⟩ := g h1
    obtain ⟨k2, e2⟩ := g h2
    exact hw.excl i i' k1 k2 e1 e2 hn1 hn2 he
  · rcases set_idx h' with ⟨hi, h1⟩ | ⟨rfl, rfl⟩
    · exact hw.sep i cs h1 hn'
    · exact hw.sep i old h (.inr he)
  · have := hw.gsz b hb'; simpa using this

theorem push_map_wrel (hw : WRel σ ρ w G) :
    WRel (hpush σ []) (ext σ ρ ⟨w.heap.size, 0, 1, true, 0⟩) { w with heap := w.heap.push (.map #[] 0), drawn := w.drawn } G ∧ Keeps σ ρ w (hpush σ []) (ext σ ρ ⟨w.heap.size, 0, 1, true, 0⟩) { w with heap := w.heap.push (.map #[] 0), drawn := w.drawn } := by
  have hk := push_keeps hw [] (.map #[] 0) ⟨w.heap.size, 0, 1, true, 0⟩ (fun _ => Nat.le_refl _) w.drawn
  refine ⟨⟨fun i cs h hn => ?_, fun i cs h hn => ?_, fun i i' cs cs' h h' hn hn' he => ?_, fun i cs h hn => ?_, fun b hb => ?_, hw.glob.keeps hk⟩, hk⟩
  · rcases push_idx h with ⟨hi, h1⟩ | ⟨rfl, rfl⟩
    · rw [ext_old hi] at hn ⊢
      have hlt := hw.lt h1 (.inl hn)
      refine (hw.blk i cs h1 hn).of (fun x v hx => hx.keeps hw hk) ?_
      show (w.heap.push _)[_]? = _
      rw [Array.getElem?_push, if_neg (by omega)]; rfl
    · rw [ext_new] at hn; simp at hn
  · rcases push_idx h with ⟨hi, h1⟩ | ⟨rfl, rfl⟩
    · rw [ext_old hi] at hn ⊢
      refine (hw.nil i cs h1 hn).of (fun x v hx => hx.keeps hw hk) (fun he => ?_)
      have hlt := hw.lt h1 (.inr he)
      show (w.heap.push _)[_]? = _
      rw [Array.getElem?_push, if_neg (by omega)]; rfl
    · rw [ext_new]
      exact ⟨fun _ => ⟨#[], 0, (MapKept.heap_alloc w (.map #[] 0)).1, .nil _, by simp, by simp⟩, fun hne => absurd rfl hne⟩
  · rcases push_idx h with ⟨hi, h1⟩ | ⟨rfl, rfl⟩ <;> rcases push_idx h' with ⟨hi', h1'⟩ | ⟨rfl, rfl⟩
    · rw [ext_old hi] at hn he; rw [ext_old hi'] at hn' he; exact hw.excl i i' cs cs' h1 h1' hn hn' he
    · rw [ext_old hi] at hn he; rw [ext_new] at he; have := hw.lt h1 hn; simp at he; omega
    · rw [ext_old hi'] at hn' he; rw [ext_new] at he; have := hw.lt h1' hn'; simp at he; omega
    · rfl
  · rcases push_idx h with ⟨hi, h1⟩ | ⟨rfl, rfl⟩
    · rw [ext_old hi] at hn ⊢; exact hw.sep i cs h1 hn
    · rw [ext_new]; intro hg; have := hw.gsz _ hg; simp at this
  · have := hw.gsz b hb; simp; omega

theorem mkMap_ok {t : TypeId} (hw : WRel σ ρ w G) : VOk P (Instr.makeMap t none) σ ρ w G (.map σ.length) (hpush σ []) := by
  obtain ⟨k1, k2⟩ := push_map_wrel hw
  refine ⟨.map (some w.heap.size), _, _, rfl, k2, k1, ?_⟩
  have := VRel.map (C := ctx (hpush σ []) (ext σ ρ ⟨w.heap.size, 0, 1, true, 0⟩) { w with heap := w.heap.push (.map #[] 0), drawn := w.drawn } G) σ.length (by simp [ctx, hpush]) (by simp [ctx, ext_new]) (by simp [ctx, ext_new])
  simpa [ctx, ext_new] using this

theorem mset_ok {t : TypeId} {kk : FK} {z x y u r : AV} {m key val : Value} {σ' : AHeap} (hw : WRel σ ρ w G) (ht : mapT P t = some (kk, z)) (hx : VRel (ctx σ ρ w G) x m) (hy : VRel (ctx σ ρ w G) y key) (hu : VRel (ctx σ ρ w G) u val)
    (h : evExt σ (.mset kk) [x, y, u] = some (r, σ')) : r = .unk ∧ ∃ w', (Instr.mapUpdate t m key val).run P w = .ok () w' ∧ Keeps σ ρ w σ' ρ w' ∧ WRel σ' ρ w' G := by
  obtain ⟨k, e, h1, h2, h3⟩ := mapT_of ht
  obtain ⟨d, d1, d2⟩ := keyD_of h2
  cases hx <;> simp only [evExt] at h <;> (try cases h)
  rename_i id i1 i2 i3
  cases hg : hget σ id with
  | none => simp [hg] at h
  | some cs =>
    cases hmi : minto kk y u cs with
    | none => simp [hg, hmi] at h
    | some cs' =>
      simp [hg, hmi] at h
      obtain ⟨rfl, rfl⟩ := h
      refine ⟨rfl, ?_⟩
      obtain ⟨es, ck, k1, k2, k3, k4⟩ := map_blk hw hg i2 i3
      have k1' : w.heap[(ρ id).blk]? = some (.map es ck) := k1
      unfold minto at hmi
      split at hmi
      · rename_i b0 i x0 hb0 hm0
        cases hmi
        have hkey : Instr.sameBits 10000 key key = true := by
          obtain ⟨s1, _⟩ := baseEq_same d2 hy hy hb0
          cases hy <;> cases kk <;> simp [baseEq] at hb0 <;> simp [Instr.sameBits, (MapKept.bytes_beq _ _).2 rfl]
        rcases mfind_ok d2 hy k2 hm0 with ⟨hne, _⟩ | ⟨j, x1, en, hje, r2, r3, r4, r5⟩
        · cases hne
        · simp only [Nat.zero_add, Option.some.injEq, Prod.mk.injEq] at hje r2
          obtain ⟨rfl, rfl⟩ := hje
          have hj : es[i]? = some en := by simpa using r3
          have hil : i < es.size := (Array.getElem?_eq_some_iff.1 hj).1
          have hmod : ∀ (n : Nat) (f : MapEntry), (es.modify i fun e => { e with key := key, val := val })[n]? = some f → ∃ g, es[n]? = some g ∧ f.born = g.born ∧ (f = if i = n then { g with key := key, val := val } else g) := by
            intro n f hf
            rw [Array.getElem?_modify] at hf
            split at hf
            · rename_i hin
              cases hgn : es[n]? with
              | none => simp [hgn] at hf
              | some g => simp [hgn] at hf; subst hf; exact ⟨g, rfl, rfl, by rw [if_pos hin]⟩
            · rename_i hin
              exact ⟨f, hf, rfl, by rw [if_neg hin]⟩
          obtain ⟨q1, q2⟩ := set_map_wrel (cells := cs.set i (.tuple [y, u])) (es' := es.modify i fun e => { e with key := key, val := val }) (ck' := ck) hw (hget_some hg) i2 i3 k1' (by
            refine ⟨by have := k2.1; simp at this ⊢; exact this, fun n a v ha hv => ?_⟩
            rw [List.getElem?_map] at hv
            obtain ⟨f, hfn, rfl⟩ := Option.map_eq_some_iff.1 hv
            rw [Array.getElem?_toList] at hfn
            obtain ⟨g, f1, f2, f3⟩ := hmod n f hfn
            rw [List.getElem?_set] at ha
            split at ha
            · rename_i hin
              subst hin
              split at ha
              · cases ha
                rw [f3, if_pos rfl]
                exact LRel.tuple (.cons hy (.cons hu (.nil _)))
              · cases ha
            · rename_i hin
              rw [f3, if_neg hin]
              exact k2.2 n a _ ha (by rw [List.getElem?_map, Array.getElem?_toList, f1]; rfl)) (fun n f hf => by
            obtain ⟨g, f1, f2, _⟩ := hmod n f hf
            rw [f2]; exact k3 n g f1) (fun n n' f f' hf hf' hbb => by
            obtain ⟨g, f1, f2, _⟩ := hmod n f hf
            obtain ⟨g', f1', f2', _⟩ := hmod n' f' hf'
            exact k4 n n' g g' f1 f1' (by rw [← f2, ← f2']; exact hbb))
          refine ⟨_, ?_, q2, q1⟩
          show (Instr.mapUpdate t (.map (some (ρ id).blk)) key val).run P w = _
          simp [Instr.mapUpdate, run_underlying h1, MapKept.run_getObj_map k1', run_checkKey_any d1 d2, MapKept.run_findKey d1 r2, hj, r4, Instr.keyThatStays, hkey, MapKept.run_setObj_map _ k1', Result.andThen]
      · rename_i b0 hb0 hm0
        cases hmi
        rcases mfind_ok d2 hy k2 hm0 with ⟨_, r2⟩ | ⟨j, x1, en, hje, _⟩
        · have hpu : ∀ (n : Nat) (f : MapEntry), (es.push ⟨key, val, ck⟩)[n]? = some f → (n < es.size ∧ es[n]? = some f) ∨ (n = es.size ∧ f = ⟨key, val, ck⟩) := by
            intro n f hf
            rw [Array.getElem?_push] at hf
            split at hf
            · rename_i hn; cases hf; exact .inr ⟨hn, rfl⟩
            · exact .inl ⟨(Array.getElem?_eq_some_iff.1 hf).1, hf⟩
          obtain ⟨q1, q2⟩ := set_map_wrel (cells := cs ++ [.tuple [y, u]]) (es' := es.push ⟨key, val, ck⟩) (ck' := ck + 1) hw (hget_some hg) i2 i3 k1' (by
            rw [Array.toList_push, List.map_append]
            exact k2.append (.cons (LRel.tuple (.cons hy (.cons hu (.nil _)))) (.nil _))) (fun n f hf => by
            rcases hpu n f hf with ⟨_, h⟩ | ⟨_, rfl⟩
            · have := k3 n f h; omega
            · exact Nat.lt_succ_self ck) (fun n n' f f' hf hf' hbb => by
            rcases hpu n f hf with ⟨hn, h⟩ | ⟨hn, rfl⟩ <;> rcases hpu n' f' hf' with ⟨hn', h'⟩ | ⟨hn', rfl⟩
            · exact k4 n n' f f' h h' hbb
            · have := k3 n f h; simp at hbb; omega
            · have := k3 n' f' h'; simp at hbb; omega
            · omega)
          refine ⟨_, ?_, q2, q1⟩
          show (Instr.mapUpdate t (.map (some (ρ id).blk)) key val).run P w = _
          simp [Instr.mapUpdate, run_underlying h1, MapKept.run_getObj_map k1', run_checkKey_any d1 d2, MapKept.run_findKey d1 r2, MapKept.run_setObj_map _ k1', Result.andThen]
        · cases hje
      · cases hmi

theorem mlen_ok {t ty : TypeId} {kk : FK} {z x r : AV} {m : Value} {σ' : AHeap} (hw : WRel σ ρ w G) (ht : mapT P t = some (kk, z)) (hx : VRel (ctx σ ρ w G) x m) (h : evExt σ .mlen [x] = some (r, σ')) :
    VOk P (Builtin.len_ #[t] ty #[m]) σ ρ w G r σ' := by
  obtain ⟨k, e, h1, h2, h3⟩ := mapT_of ht
  cases hx <;> simp only [evExt] at h <;> (try cases h)
  · rename_i id i1 i2 i3
    cases hg : hget σ id with
    | none => simp [hg] at h
    | some cs =>
      simp [hg] at h
      obtain ⟨rfl, rfl⟩ := h
      obtain ⟨es, ck, k1, k2, k3, k4⟩ := map_blk hw hg i2 i3
      have k1' : w.heap[(ρ id).blk]? = some (.map es ck) := k1
      have hl : cs.length = es.size := by have := k2.1; simpa using this
      refine VOk.stay hw (v := .int .i64 (es.size : Int)) ?_ (by rw [hl]; exact .int _ _)
      show (Builtin.len_ #[t] ty #[.map (some (ρ id).blk)]).run P w = _
      simp [Builtin.len_, run_underlying h1, MapKept.run_getObj_map k1', goInt, Result.andThen]
  · refine VOk.stay hw (v := .int .i64 0) ?_ (.int _ _)
    simp [Builtin.len_, run_underlying h1, goInt, Result.andThen]
end
end Go.Gz
