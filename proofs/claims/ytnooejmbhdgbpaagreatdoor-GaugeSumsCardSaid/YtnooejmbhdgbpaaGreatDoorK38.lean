/- Heaps: what is there behind a step; lists that grow; bytes; splitting conditions. No condition. -/
import Derived.Test.YtnooejmbhdgbpaaGreatDoorK34
import Derived.Test.YtnooejmbhdgbpaaGreatDoorK37
set_option linter.unusedVariables false
set_option linter.unusedSimpArgs false
namespace Go.Gz.H
set_option maxHeartbeats 4000000
set_option maxRecDepth 10000
theorem hget_lt {σ : AHeap} {j : Nat} {c : List AV} (h : hget σ j = some c) : j < σ.length := by
  have := hget_some h
  exact (List.getElem?_eq_some_iff.1 this).1
theorem push_new {σ : AHeap} {c : List AV} {n : Nat} (h : n = σ.length) : hget (hpush σ c) n = some c := by subst h; simp [hget, hpush]
theorem push_old {σ : AHeap} {j : Nat} {c d : List AV} (h : hget σ j = some d) : hget (hpush σ c) j = some d := by
  have := hget_lt h
  simp only [hget, hpush, List.getElem?_append_left this]; exact h
theorem set_same {σ : AHeap} {j : Nat} {c d : List AV} (h : hget σ j = some d) : hget (hset σ j c) j = some c := by
  have := hget_lt h
  simp [hget, hset, this]
theorem set_other {σ : AHeap} {i j : Nat} {c : List AV} (h : i ≠ j) : hget (hset σ i c) j = hget σ j := by simp [hget, hset, List.getElem?_set, h]
theorem kill_other {σ : AHeap} {i j : Nat} (h : i ≠ j) : hget (hkill σ i) j = hget σ j := by simp [hget, hkill, List.getElem?_set, h]
theorem push_len {σ : AHeap} {c : List AV} : (hpush σ c).length = σ.length + 1 := by simp [hpush]
theorem set_len {σ : AHeap} {i : Nat} {c : List AV} : (hset σ i c).length = σ.length := by simp [hset]
theorem kill_len {σ : AHeap} {i : Nat} : (hkill σ i).length = σ.length := by simp [hkill]
theorem cell_cells {v : AV} (h : v.isCell = true) : v.cells? = some [v] := by cases v <;> simp [AV.isCell] at h <;> rfl
theorem al_frame {σ : AHeap} {j : Nat} {x c d : List AV} (h : hget σ j = some x) : hget (hset (hpush σ c) σ.length d) j = some x := by
  have := hget_lt h
  rw [set_other (by omega)]; exact push_old h
theorem set_set {σ : AHeap} {j : Nat} {c d : List AV} : hset (hset σ j c) j d = hset σ j d := by simp [hset]
/-- In the heap: nil, or a block of its own, of rows of w cells each. -/
def Grow (σ : AHeap) (Lv : AV) (w : Nat) (rows : List (List AV)) : Prop :=
  (Lv = .nilslice ∧ rows = []) ∨ ∃ d, Lv = .slice d 0 rows.length none w ∧ hget σ d = some rows.flatten ∧ (∀ r ∈ rows, r.length = w) ∧ rows.flatten.all (fun x => x.isCell) = true
def LvD : AV → Option Nat
  | .slice d _ _ _ _ => some d
  | _ => none
theorem flat_len {w : Nat} : ∀ {rows : List (List AV)}, (∀ r ∈ rows, r.length = w) → rows.flatten.length = rows.length * w
  | [], _ => by simp
  | r :: rs, h => by
    have := flat_len (rows := rs) (w := w) fun q hq => h q (by simp [hq])
    simp only [List.flatten_cons, List.length_append, List.length_cons, this, h r (by simp), Nat.add_mul]; omega
theorem grow_cell {σ : AHeap} {Lv : AV} {w : Nat} {rows : List (List AV)} (h : Grow σ Lv w rows) : Lv.isCell = true := by
  rcases h with ⟨rfl, _⟩ | ⟨d, rfl, _⟩ <;> rfl
theorem grow_len {σ : AHeap} {Lv : AV} {w : Nat} {rows : List (List AV)} (h : Grow σ Lv w rows) : lenOf Lv = some rows.length := by
  rcases h with ⟨rfl, rfl⟩ | ⟨d, rfl, _⟩ <;> rfl
theorem grow_old {σ : AHeap} {Lv : AV} {w : Nat} {rows : List (List AV)} (h : Grow σ Lv w rows) : ∀ d, LvD Lv = some d → d < σ.length := by
  rcases h with ⟨rfl, rfl⟩ | ⟨d, rfl, h, _⟩
  · intro d h; cases h
  · intro d' h'; cases h'; exact hget_lt h
theorem grow_frame {σ τ : AHeap} {Lv : AV} {w : Nat} {rows : List (List AV)} (h : Grow σ Lv w rows) (hf : ∀ j c, hget σ j = some c → LvD Lv = some j → hget τ j = some c) : Grow τ Lv w rows := by
  rcases h with ⟨rfl, h⟩ | ⟨d, rfl, h1, h2, h3⟩
  · exact .inl ⟨rfl, h⟩
  · exact .inr ⟨d, rfl, hf d _ h1 rfl, h2, h3⟩
theorem grow_any {σ : AHeap} {Lv x : AV} {w b : Nat} {rows ys : List (List AV)} (hb : b ≤ 1000) (h : Grow σ Lv w rows) (hk : rows.length + ys.length ≤ 1000000000) (he : elemsOf σ w x = some ys.flatten) (hl : lenOf x = some ys.length) (hw : ∀ r ∈ ys, r.length = w) (hc : ys.flatten.all (fun x => x.isCell) = true) :
    ∃ v τ, evAppend w b Lv x σ = some (v, τ) ∧ v.isCell = true ∧ v.cells? = some [v] ∧ (∀ j c, hget σ j = some c → LvD Lv ≠ some j → hget τ j = some c ∧ LvD v ≠ some j) ∧ Grow τ v w (rows ++ ys) := by
  have hgr : mayGrow (rows.length + ys.length) b = true := by
    simp only [mayGrow, decide_eq_true_eq]
    have : (2 * (rows.length + ys.length) + 768) * b ≤ (2 * (rows.length + ys.length) + 768) * 1000 := Nat.mul_le_mul_left _ hb
    omega
  have l0 := grow_len h
  rcases h with ⟨rfl, rfl⟩ | ⟨d, rfl, hg, hlen, hall⟩
  · by_cases hy : ys.length = 0
    · have : ys = [] := List.length_eq_zero_iff.1 hy
      subst this
      refine ⟨.nilslice, σ, ?_, rfl, rfl, fun j c hj _ => ⟨hj, by simp [LvD]⟩, .inl ⟨rfl, rfl⟩⟩
      simp only [List.length_nil] at hgr
      simp only [evAppend, he, hl, l0, hc, List.length_nil, hgr, Bool.and_self, if_true]
    · refine ⟨.slice σ.length 0 ys.length none w, hpush σ ys.flatten, ?_, rfl, rfl, fun j c hj _ => ⟨push_old hj, ?_⟩, .inr ⟨σ.length, rfl, push_new rfl, hw, hc⟩⟩
      · simp only [evAppend, he, hl, l0, hgr, hc, Bool.and_self, if_true, if_neg hy, grown]
      · have := hget_lt hj
        simp only [LvD, ne_eq, Option.some.injEq]; omega
  · have ho : elemsOf σ w (.slice d 0 rows.length none w) = some rows.flatten := by
      simp only [elemsOf, if_true, hg, Option.bind_some]
      exact sub_all (flat_len hlen).symm
    refine ⟨.slice σ.length 0 (rows.length + ys.length) none w, hpush (hkill σ d) (rows.flatten ++ ys.flatten), ?_, rfl, rfl, fun j c hj hn => ⟨push_old (by rw [kill_other (fun e => hn (by rw [LvD, e]))]; exact hj), ?_⟩, .inr ⟨σ.length, by simp, by rw [push_new (by simp [kill_len])]; simp, ?_, ?_⟩⟩
    · simp only [evAppend, he, hl, l0, hgr, hc, Bool.and_self, if_true, ho, Option.map_some, grown, kill_len]
    · have := hget_lt hj
      simp only [LvD, ne_eq, Option.some.injEq]; omega
    · intro r hr
      rcases List.mem_append.1 hr with h | h
      · exact hlen r h
      · exact hw r h
    · rw [List.flatten_append, List.all_append, hall, hc]; rfl
theorem grow_one {σ : AHeap} {Lv : AV} {w b : Nat} {rows : List (List AV)} (hb : b ≤ 1000) (h : Grow σ Lv w rows) (hk : rows.length < 1000000000) (row : List AV) (hw : row.length = w) (hc : row.all (fun x => x.isCell) = true) :
    ∃ v τ, evAppend w b Lv (.slice σ.length 0 1 (some 1) w) (hpush σ row) = some (v, τ) ∧ v.isCell = true ∧ v.cells? = some [v] ∧ (∀ j c, hget σ j = some c → LvD Lv ≠ some j → hget τ j = some c ∧ LvD v ≠ some j) ∧ Grow τ v w (rows ++ [row]) := by
  have he : elemsOf (hpush σ row) w (.slice σ.length 0 1 (some 1) w) = some [row].flatten := by
    simp only [elemsOf, if_true, push_new rfl, Option.bind_some]
    rw [show [row].flatten = row by simp]
    exact sub_all (by omega)
  have hg := grow_frame h (τ := hpush σ row) fun j c hj _ => push_old hj
  obtain ⟨v, τ, h1, h2, h3, h4, h5⟩ := grow_any hb hg (ys := [row]) (by simp; omega) he rfl (by simpa using hw) (by simpa using hc)
  exact ⟨v, τ, h1, h2, h3, fun j c hj hn => h4 j c (push_old hj) hn, h5⟩
theorem grow_frz {σ : AHeap} {Lv : AV} {w : Nat} {rows : List (List AV)} (h : Grow σ Lv w rows) (hp : pureLL rows = true) : Frz σ Lv (.imm rows false false) := by
  rcases h with ⟨rfl, rfl⟩ | ⟨d, rfl, hg, hlen, hall⟩
  · exact .nil
  · refine .slice hg (sub_all (flat_len hlen).symm) rfl hlen (fun i y z hy hz => ?_)
    rw [hy] at hz; cases hz
    obtain ⟨r, hr, hyr⟩ := List.mem_flatten.1 (List.mem_of_getElem? hy)
    exact .pure (pureL_all (pureLL_all hp r hr) y hyr)
theorem rows_flat (bs : List UInt8) : (bs.map fun b => [byteAV b]).flatten = bs.map byteAV := by
  induction bs with
  | nil => rfl
  | cons b r ih => simp [ih]
theorem byte_cell (bs : List UInt8) : ((bs.map byteAV).all fun x => x.isCell) = true := by
  rw [List.all_eq_true]
  intro x hx
  obtain ⟨b, _, rfl⟩ := List.mem_map.1 hx
  rfl
def rws (bs : List UInt8) : List (List AV) := bs.map fun b => [byteAV b]
theorem rws_len (bs : List UInt8) : (rws bs).length = bs.length := by simp [rws]
theorem bytes_ofR (bs : List UInt8) : bytesOf (bs.map byteAV) = some bs := by
  induction bs with
  | nil => rfl
  | cons b r ih =>
    simp only [List.map_cons]
    rw [show byteAV b = AV.int .u8 (b.toNat : Int) from rfl]
    simp only [bytesOf, ih]
    simp
theorem ofRws (σ : AHeap) (bs : List UInt8) (f n : Bool) : Gz.ofBytes σ (.imm (rws bs) f n) = some bs := by
  have h1 : (rws bs).all (fun r => r.length == 1) = true := by simp [rws]
  show ((if (rws bs).all (fun r => r.length == 1) then some (rws bs).flatten else none).bind bytesOf) = some bs
  rw [if_pos h1]
  unfold rws
  rw [rows_flat]
  exact bytes_ofR bs
theorem rws_pure (bs : List UInt8) : pureLL (rws bs) = true := pureLL_of fun r hr => by
  obtain ⟨b, _, rfl⟩ := List.mem_map.1 hr
  rfl
theorem imm_pure (bs : List UInt8) (f nn : Bool) : (AV.imm (rws bs) f nn).pure = true := by simp only [AV.pure, rws_pure]
theorem bytes_frz {σ : AHeap} {d n : Nat} {bs : List UInt8} (h : hget σ d = some (bs.map byteAV)) (hn : n = bs.length) : Frz σ (.slice d 0 n none 1) (.imm (rws bs) false false) := by
  subst hn
  refine .slice h (by rw [Nat.mul_one]; exact sub_all (by simp)) (by simp [rws]) ?_ (fun i y z hy hz => ?_)
  · intro r hr
    obtain ⟨b, _, rfl⟩ := List.mem_map.1 hr
    rfl
  · unfold rws at hz
    rw [rows_flat, hy] at hz
    cases hz
    obtain ⟨b, _, rfl⟩ := List.mem_map.1 (List.mem_of_getElem? hy)
    exact .pure rfl
theorem put_one1 {cs : List AV} {k : Nat} {v : AV} (h : k < cs.length) : put cs k [v] = some (cs.set k v) := by
  unfold put
  rw [if_pos (by simp only [List.length_cons, List.length_nil]; omega), List.set_eq_take_append_cons_drop, if_pos h]
  simp
theorem put_all {z cs : List AV} (h : z.length = cs.length) : put z 0 cs = some cs := by
  unfold put
  rw [if_pos (by omega)]
  simp [h]
theorem cut_grow {σ : AHeap} {d k w b : Nat} {rows : List (List AV)} (hb : b ≤ 1000) (hd : hget σ d = some rows.flatten) (hlen : ∀ r ∈ rows, r.length = w) (hall : rows.flatten.all (fun x => x.isCell) = true) (hk : k < rows.length) (hbig : rows.length ≤ 1000000) :
    ∃ v1 τ1 v τ, evAppend w b (.slice σ.length 0 0 (some 0) w) (.slice d 0 k none w) (hpush σ []) = some (v1, τ1) ∧ v1.isCell = true ∧ v1.cells? = some [v1] ∧
      evAppend w b v1 (.slice d ((k + 1) * w) (rows.length - (k + 1)) none w) τ1 = some (v, τ) ∧ v.isCell = true ∧ v.cells? = some [v] ∧ (∀ j c, hget σ j = some c → hget τ j = some c ∧ LvD v ≠ some j) ∧ Grow τ v w (rows.eraseIdx k) := by
  have hfl : ∀ q : List (List AV), (∀ r ∈ q, r.length = w) → q.flatten.length = q.length * w := fun q hq => flat_len hq
  have hsplit : rows.flatten = (rows.take k).flatten ++ (rows.drop k).flatten := by rw [← List.flatten_append, List.take_append_drop]
  have hsplit2 : rows.flatten = (rows.take (k + 1)).flatten ++ (rows.drop (k + 1)).flatten := by rw [← List.flatten_append, List.take_append_drop]
  have ht : ∀ n, ∀ r ∈ rows.take n, r.length = w := fun n r hr => hlen r (List.mem_of_mem_take hr)
  have hdr : ∀ n, ∀ r ∈ rows.drop n, r.length = w := fun n r hr => hlen r (List.mem_of_mem_drop hr)
  have lt : (rows.take k).flatten.length = k * w := by rw [hfl _ (ht k), List.length_take, Nat.min_eq_left (by omega)]
  have lt1 : (rows.take (k + 1)).flatten.length = (k + 1) * w := by rw [hfl _ (ht (k + 1)), List.length_take, Nat.min_eq_left (by omega)]
  have ld1 : (rows.drop (k + 1)).flatten.length = (rows.length - (k + 1)) * w := by rw [hfl _ (hdr (k + 1)), List.length_drop]
  have s1 : sub rows.flatten 0 (k * w) = some (rows.take k).flatten := by
    unfold sub
    rw [if_pos (by rw [hsplit, List.length_append, lt]; omega), List.drop_zero, hsplit, List.take_append_of_le_length (by omega), List.take_of_length_le (by omega)]
  have s2 : sub rows.flatten ((k + 1) * w) ((rows.length - (k + 1)) * w) = some (rows.drop (k + 1)).flatten := by
    unfold sub
    rw [if_pos (by rw [hsplit2, List.length_append, lt1, ld1]; omega), hsplit2, List.drop_append, List.drop_eq_nil_of_le (by omega), lt1, Nat.sub_self, List.drop_zero, List.nil_append, List.take_of_length_le (by omega)]
  have c1 : (rows.take k).flatten.all (fun x => x.isCell) = true := by rw [hsplit, List.all_append] at hall; exact (Bool.and_eq_true _ _ ▸ hall).1
  have c2 : (rows.drop (k + 1)).flatten.all (fun x => x.isCell) = true := by rw [hsplit2, List.all_append] at hall; exact (Bool.and_eq_true _ _ ▸ hall).2
  have hdl := hget_lt hd
  have e1 : elemsOf (hpush σ []) w (.slice d 0 k none w) = some (rows.take k).flatten := by
    simp only [elemsOf, if_true, push_old hd, Option.bind_some]; exact s1
  have gr : ∀ n, n ≤ 1000000 → mayGrow n b = true := fun n hn => by
    simp only [mayGrow, decide_eq_true_eq]
    have : (2 * n + 768) * b ≤ (2 * n + 768) * 1000 := Nat.mul_le_mul_left _ hb
    omega
  have l1 : lenOf (.slice d 0 k none w) = some k := rfl
  have l0 : lenOf (.slice σ.length 0 0 (some 0) w) = some 0 := rfl
  have ha : evAppend w b (.slice σ.length 0 0 (some 0) w) (.slice d 0 k none w) (hpush σ []) = some (.slice (σ.length + 1) 0 k none w, hpush (hpush σ []) (rows.take k).flatten) := by
    simp only [evAppend, e1, l1, l0, gr (0 + k) (by omega), c1, Bool.and_self, if_true, grown, push_len]
  have g1 : Grow (hpush (hpush σ []) (rows.take k).flatten) (.slice (σ.length + 1) 0 k none w) w (rows.take k) :=
    .inr ⟨σ.length + 1, by rw [List.length_take, Nat.min_eq_left (by omega)], push_new (by simp [push_len]), ht k, c1⟩
  have e2 : elemsOf (hpush (hpush σ []) (rows.take k).flatten) w (.slice d ((k + 1) * w) (rows.length - (k + 1)) none w) = some (rows.drop (k + 1)).flatten := by
    simp only [elemsOf, if_true, push_old (push_old hd), Option.bind_some]; exact s2
  obtain ⟨v, τ, a1, a2, a3, a4, a5⟩ := grow_any (ys := rows.drop (k + 1)) hb g1 (by simp; omega) e2 (by show some _ = _; rw [List.length_drop]) (hdr (k + 1)) c2
  refine ⟨_, _, v, τ, ha, rfl, rfl, a1, a2, a3, fun j c hj => a4 j c (push_old (push_old hj)) (by have := hget_lt hj; simp only [LvD, ne_eq, Option.some.injEq]; omega), ?_⟩
  rw [List.eraseIdx_eq_take_drop_succ]; exact a5
theorem ev_to {w k n sz : Nat} (h : k ≤ n) : evSlice sz (.slice w 0 n none sz) none (some (.int .i64 (k : Int))) none = some (.slice w 0 k none sz) := by
  have b1 : bound? none n n = some n := rfl
  have b2 : bound? (some (.int .i64 (k : Int))) n n = some k := by rw [bound_int, if_pos (by omega), if_pos (by omega)]; simp
  have b3 : bound? none 0 k = some 0 := rfl
  simp only [evSlice, topOf, b1, b2, b3]
  rw [if_pos ⟨by omega, by omega, trivial⟩]
  simp
theorem ev_from {w k n sz : Nat} (h : k ≤ n) : evSlice sz (.slice w 0 n none sz) (some (.int .i64 (k : Int))) none none = some (.slice w (k * sz) (n - k) none sz) := by
  have b1 : bound? none n n = some n := rfl
  have b3 : bound? (some (.int .i64 (k : Int))) 0 n = some k := by rw [bound_int, if_pos (by omega), if_pos (by omega)]; simp
  simp only [evSlice, topOf, b1, b3]
  rw [if_pos ⟨by omega, by omega, trivial⟩]
  simp
theorem grow_lenS {σ : AHeap} {Lv : AV} {w n : Nat} {rows : List (List AV)} (h : Grow σ Lv w rows ∧ rows.length = n) : lenSl Lv = some n := by
  obtain ⟨h | ⟨d, h, _⟩, hn⟩ := h
  · rw [h.1, ← hn, h.2]; rfl
  · rw [h, ← hn]; rfl
theorem guardK_case {C : PCall} {q : Bool} {w : Bool} {d : Option Nat} {m : MOp} {os : List MOper} {K : Env → AHeap → Prop} {e : Env} {σ : AHeap} (h1 : q = true → guardK C (.bool true) w d m os K e σ) (h0 : q = false → guardK C (.bool false) w d m os K e σ) : guardK C (.bool q) w d m os K e σ := by
  cases q
  · exact h0 rfl
  · exact h1 rfl
theorem condK_split {C : PCall} {n0 : Nat} {R : MExit → Env → AHeap → Prop} {q : Bool} {a b : SCode} {k : Cont} {e : Env} {σ : AHeap} (h1 : q = true → condK C n0 R (.bool true) a b k e σ) (h0 : q = false → condK C n0 R (.bool false) a b k e σ) : condK C n0 R (.bool q) a b k e σ := by
  cases q
  · exact h0 rfl
  · exact h1 rfl
theorem lenOf_nilS : lenOf .nilslice = some 0 := _root_.id rfl
theorem lenOf_imm {rows : List (List AV)} {f n : Bool} : lenOf (.imm rows f n) = some rows.length := _root_.id rfl
end Go.Gz.H
