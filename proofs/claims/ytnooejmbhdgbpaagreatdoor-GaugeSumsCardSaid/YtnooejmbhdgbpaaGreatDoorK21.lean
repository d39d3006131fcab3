/- From a law's arguments, read as data, to the abstract machine; and from what it comes to there to the law's row. -/
import Derived.Test.YtnooejmbhdgbpaaGreatDoorK19
import Derived.ProofKit
import Derived.OpenShut
import Derived.SizedLaws
set_option linter.unusedVariables false
set_option linter.unusedSimpArgs false
namespace Go.Gz
open Go.ChangeShapes Go.WideShapes Go.ChangeAt Go.RowKit

/-- Whatever data of the type t is read: it is some y, whose cells are such. -/
def Rd (P : Program) (t : TypeId) {T : Type} (cells : T → List AV) (ok : T → Prop) : Prop :=
  ∀ (H : Type) (enc : TypeId × Value → H) (W : World) (fuel : Nat) (cs : List Value) (x : DataW H × List MemPlace), DataW.trod enc P W 0 (fun _ => true) true fuel t cs = some x → (∀ n ∈ x.1.weights P t, n ≤ reachBytes) →
    ∃ y : T, ok y ∧ ∀ C : Ctx, C.w = W → (∀ b, ¬ C.O b) → LRel C (cells y) cs

section
variable {P : Program} {t e : TypeId}

theorem rd_bool (ht : P.underlying t = some .bool) : Rd P t (fun b : Bool => [.bool b]) (fun _ => True) := by
  intro H enc W fuel cs x h _
  obtain ⟨b, rfl, _⟩ := DataW.trod_bool ht h
  exact ⟨b, trivial, fun C _ _ => .cons (.bool b) (.nil C)⟩

theorem rd_int {k : IntKind} (ht : P.underlying t = some (.int k)) : Rd P t (fun n : Int => [.int k n]) (fun n => k.min ≤ n ∧ n ≤ k.max) := by
  intro H enc W fuel cs x h _
  obtain ⟨n, rfl, _, hw⟩ := DataW.trod_int ht h
  exact ⟨n, by simpa [Lit.wf] using hw, fun C _ _ => .cons (.int k n) (.nil C)⟩

theorem rd_str (ht : P.underlying t = some .string) : Rd P t (fun s : List UInt8 => [.str s]) (fun s => s.length ≤ reachBytes) := by
  intro H enc W fuel cs x h hz
  obtain ⟨s, rfl, rfl, hw⟩ := DataW.trod_string ht h
  obtain ⟨⟨l⟩⟩ := s
  exact ⟨l, hz l.length (by simp [DataW.weights]), fun C _ _ => .cons (.str l) (.nil C)⟩

theorem list_choose {T : Type} {R : Nat → T → Prop} : ∀ (n : Nat), (∀ i, i < n → ∃ y, R i y) → ∃ l : List T, l.length = n ∧ ∀ (i : Nat) y, l[i]? = some y → R i y
  | 0, _ => ⟨[], rfl, fun i y h => by simp at h⟩
  | n + 1, h => by
    obtain ⟨l, h1, h2⟩ := list_choose n (fun i hi => h i (by omega))
    obtain ⟨y, hy⟩ := h n (by omega)
    refine ⟨l ++ [y], by simp [h1], fun i z hz => ?_⟩
    rw [List.getElem?_append] at hz
    split at hz
    · exact h2 i z hz
    · rename_i hn
      have : i = n := by
        have := idx_lt hz
        simp at this; omega
      subst this
      simp [h1] at hz
      subst hz; exact hy

theorem weights_all {H : Type} {P : Program} {e : TypeId} : ∀ {l : List (DataW H)} {d : DataW H} {n : Nat}, d ∈ l → n ∈ d.weights P e → n ∈ DataW.weightsAll P e l
  | x :: l, d, n, hd, hn => by
    simp only [DataW.weightsAll, List.mem_append]
    rcases List.mem_cons.1 hd with rfl | hd
    · exact .inl hn
    · exact .inr (weights_all hd hn)

theorem rd_slice {T : Type} {cells : T → List AV} {ok : T → Prop} (ht : P.underlying t = some (.slice e)) (hpos : 0 < P.cellsOf e) (he : Rd P e cells ok) :
    Rd P t (fun l : List T => [.imm (l.map cells) false false]) (fun l => l.length * P.bytesOf e ≤ reachBytes ∧ ∀ y ∈ l, ok y) := by
  intro H enc W fuel cs x h hz
  rcases DataW.trod_slice ht h with ⟨rfl, _⟩ | ⟨a, len, cap, elems, rest, n, _, rfl, rfl, _, h2, h1, h3, h4, h5, _⟩
  · exact ⟨[], ⟨by simp, by simp⟩, fun C _ _ => .cons (.immNil false) (.nil C)⟩
  · have key : ∀ i, i < len → ∃ y : T, ok y ∧ ∃ cs, W.cells? 0 (a.add (i * P.cellsOf e)) (P.cellsOf e) = some cs ∧ ∀ C : Ctx, C.w = W → (∀ b, ¬ C.O b) → LRel C (cells y) cs := by
      intro i hi
      have := h4 i hi
      rw [List.getElem?_eq_getElem (by omega)] at this
      obtain ⟨cs, hcs, hd⟩ := Option.bind_eq_some_iff.1 this
      obtain ⟨y, hy, hr⟩ := he H enc W n cs _ hd fun m hm => hz m (by
        simp only [DataW.weights, ht]
        refine List.mem_cons_of_mem _ (List.mem_append_left _ (weights_all (List.mem_map.2 ⟨_, List.getElem_mem (by omega), rfl⟩) hm)))
      exact ⟨y, hy, cs, hcs, hr⟩
    obtain ⟨l, hl, hh⟩ := list_choose len key
    have hbig : l.length * P.bytesOf e ≤ reachBytes := by
      have := hz ((elems.length + rest.length) * P.bytesOf e) (by simp [DataW.weights, ht])
      exact Nat.le_trans (Nat.mul_le_mul_right _ (by omega)) this
    refine ⟨l, ⟨hbig, fun y hy => ?_⟩, fun C hC hO => .cons ?_ (.nil C)⟩
    · obtain ⟨i, hi⟩ := List.getElem?_of_mem hy
      exact (hh i y hi).1
    · rcases Nat.eq_zero_or_pos cap with h0 | h0
      · have hl0 : len = 0 := by omega
        subst hl0
        have : l = [] := List.length_eq_zero_iff.1 hl
        subst this; subst h0
        exact .immVoid false false a
      · have hcell : ∃ v, W.cell? a = some v := by
          rcases Nat.eq_zero_or_pos len with g0 | g0
          · have g5 := (h5 rfl).2 0 (by omega)
            rw [List.getElem?_eq_getElem (by have := (h5 rfl).1; omega)] at g5
            obtain ⟨cs, hcs, _⟩ := Option.bind_eq_some_iff.1 g5
            obtain ⟨_, k2, k3⟩ := World.cells?_some hcs
            have := k3 0 hpos
            rw [List.getElem?_eq_getElem (by omega)] at this
            simp only [g0, Nat.add_zero, Nat.zero_mul, Addr.add, if_true] at this
            exact ⟨_, this⟩
          · have g4 := h4 0 g0
            rw [List.getElem?_eq_getElem (by omega)] at g4
            obtain ⟨cs, hcs, _⟩ := Option.bind_eq_some_iff.1 g4
            obtain ⟨_, k2, k3⟩ := World.cells?_some hcs
            have := k3 0 hpos
            rw [List.getElem?_eq_getElem (by omega)] at this
            simp only [Nat.zero_mul, Addr.add, if_true] at this
            exact ⟨_, this⟩
        obtain ⟨v0, hv0⟩ := hcell
        have hs := World.cell?_spot hv0
        obtain ⟨b, o, s⟩ := a
        simp only at hs
        subst hs
        have hsz : ∀ (i : Nat) y, l[i]? = some y → (cells y).length = P.cellsOf e := by
          intro i y hi
          obtain ⟨_, cs, hcs, hr⟩ := hh i y hi
          rw [(hr C hC hO).1, (World.cells?_some hcs).2.1]
        have hcell : ∀ (i : Nat) y (j : Nat) x, l[i]? = some y → (cells y)[j]? = some x → ∃ v, W.cell? ⟨b, o + i * P.cellsOf e + j, none⟩ = some v ∧ VRel C x v := by
          intro i y j x hi hj
          obtain ⟨_, cs, hcs, hr⟩ := hh i y hi
          have hj' := idx_lt hj
          have hr := hr C hC hO
          have hjc : j < cs.length := by rw [← hr.1]; exact hj'
          have := (World.cells?_some hcs).2.2 j (by rw [← (World.cells?_some hcs).2.1]; exact hjc)
          refine ⟨cs[j], ?_, hr.2 j x _ hj (List.getElem?_eq_getElem hjc)⟩
          rw [List.getElem?_eq_getElem hjc, add_plain] at this
          rw [← this]
          congr 1
          unfold Addr.add
          split
          · rename_i hz; rw [hz]; simp
          · rfl
        have hm : ∀ {i : Nat} {row : List AV}, (l.map cells)[i]? = some row → ∃ y, l[i]? = some y ∧ cells y = row := by
          intro i row h
          simpa [List.getElem?_map] using h
        have := VRel.imm (C := C) (l.map cells) false false b o cap (P.cellsOf e) (fun i j => (W.cell? ⟨b, o + i * P.cellsOf e + j, none⟩).getD undef) (by simp [hl]; exact h2) (by simp)
          (fun i row h => by obtain ⟨y, hy, rfl⟩ := hm h; exact hsz i y hy)
          (fun i row j x h hx => by
            obtain ⟨y, hy, rfl⟩ := hm h
            obtain ⟨v, hv, _⟩ := hcell i y j x hy hx
            exact ⟨by rw [hC, hv]; rfl, hO b⟩)
          (fun i row j x h hx => by
            obtain ⟨y, hy, rfl⟩ := hm h
            obtain ⟨v, hv, hr⟩ := hcell i y j x hy hx
            rw [hv]; exact hr)
        simpa [hl] using this

/-- Cells one behind the other. -/
theorem rel_parts {C : Ctx} {T : Type} {cells : T → List AV} : ∀ (n sz : Nat) (l : List T) (cs : List Value), l.length = n → cs.length = n * sz → (∀ (i : Nat) y, l[i]? = some y → LRel C (cells y) ((cs.drop (i * sz)).take sz)) → LRel C (l.flatMap cells) cs
  | 0, sz, l, cs, hl, hc, h => by
    have : l = [] := List.length_eq_zero_iff.1 hl
    subst this
    have : cs = [] := List.length_eq_zero_iff.1 (by simpa using hc)
    subst this
    exact .nil C
  | n + 1, sz, l, cs, hl, hc, h => by
    cases l with
    | nil => simp at hl
    | cons y l =>
      have h0 := h 0 y rfl
      simp only [Nat.zero_mul, List.drop_zero] at h0
      have := rel_parts n sz l (cs.drop sz) (by simpa using hl) (by simp [hc, Nat.add_mul]) (fun i z hz => by
        have := h (i + 1) z hz
        rwa [List.drop_drop, Nat.add_comm sz (i * sz), ← Nat.succ_mul])
      have e := h0.append this
      rwa [List.take_append_drop] at e

theorem rd_array {T : Type} {cells : T → List AV} {ok : T → Prop} {n : Nat} (ht : P.underlying t = some (.array n e)) (hs : P.cellsOf t = n * P.cellsOf e) (he : Rd P e cells ok) :
    Rd P t (fun l : List T => l.flatMap cells) (fun l => l.length = n ∧ ∀ y ∈ l, ok y) := by
  intro H enc W fuel cs x h hz
  obtain ⟨xs, m, _, rfl, h1, h2, h3⟩ := DataW.trod_array ht h
  have key : ∀ i, i < n → ∃ y : T, ok y ∧ ∀ C : Ctx, C.w = W → (∀ b, ¬ C.O b) → LRel C (cells y) ((cs.drop (i * P.cellsOf e)).take (P.cellsOf e)) := by
    intro i hi
    have := h3 i hi
    rw [List.getElem?_eq_getElem (by omega)] at this
    refine he H enc W m _ _ this fun k hk => hz k ?_
    simp only [DataW.weights, ht]
    exact weights_all (List.mem_map.2 ⟨_, List.getElem_mem (by omega), rfl⟩) hk
  obtain ⟨l, hl, hh⟩ := list_choose n key
  refine ⟨l, ⟨hl, fun y hy => ?_⟩, fun C hC hO => rel_parts n (P.cellsOf e) l cs hl (by omega) (fun i y hy => (hh i y hy).2 C hC hO)⟩
  obtain ⟨i, hi⟩ := List.getElem?_of_mem hy
  exact (hh i y hi).1

/-- Fields one behind the other: from the k-th on, whose first cell is the o-th. -/
def RdF (P : Program) : List Field → Nat → {T : Type} → (T → List AV) → (T → Prop) → Prop := fun fs o {T} cells ok =>
  ∀ (H : Type) (enc : TypeId × Value → H) (W : World) (fuel : Nat) (cs : List Value), (∀ f ∈ fs, ∃ x : DataW H × List MemPlace, DataW.trod enc P W 0 (fun _ => true) true fuel f.type ((cs.drop f.offset).take (P.cellsOf f.type)) = some x ∧ ∀ n ∈ x.1.weights P f.type, n ≤ reachBytes) →
    cs.length = o + (fs.map fun f => P.cellsOf f.type).sum → ∃ y : T, ok y ∧ ∀ C : Ctx, C.w = W → (∀ b, ¬ C.O b) → LRel C (cells y) (cs.drop o)

theorem rdf_nil (o : Nat) : RdF P [] o (fun _ : Unit => []) (fun _ => True) := by
  intro H enc W fuel cs h hl
  refine ⟨(), trivial, fun C _ _ => ?_⟩
  have : cs.drop o = [] := by simp at hl; simp [hl]
  rw [this]; exact .nil C

theorem rdf_cons {f : Field} {fs : List Field} {o : Nat} {T U : Type} {cells : T → List AV} {ok : T → Prop} {cells' : U → List AV} {ok' : U → Prop} (ho : f.offset = o) (hf : Rd P f.type cells ok) (h : RdF P fs (o + P.cellsOf f.type) cells' ok') :
    RdF P (f :: fs) o (fun p : T × U => cells p.1 ++ cells' p.2) (fun p => ok p.1 ∧ ok' p.2) := by
  intro H enc W fuel cs hh hl
  obtain ⟨x, hx, hxz⟩ := hh f (.head _)
  obtain ⟨y, hy, hr⟩ := hf H enc W fuel _ x hx hxz
  obtain ⟨z, hz, hr'⟩ := h H enc W fuel cs (fun g hg => hh g (.tail _ hg)) (by simp at hl ⊢; omega)
  refine ⟨(y, z), ⟨hy, hz⟩, fun C hC hO => ?_⟩
  have := (hr C hC hO).append (hr' C hC hO)
  rw [ho, ← List.drop_drop, List.take_append_drop] at this
  exact this

theorem rd_struct {fs : Array Field} {T : Type} {cells : T → List AV} {ok : T → Prop} (ht : P.underlying t = some (.struct fs)) (hs : P.cellsOf t = (fs.toList.map fun f => P.cellsOf f.type).sum) (h : RdF P fs.toList 0 cells ok) : Rd P t cells ok := by
  intro H enc W fuel cs x hx hz
  obtain ⟨xs, n, _, rfl, h1, h2, h3⟩ := DataW.trod_struct ht hx
  obtain ⟨y, hy, hr⟩ := h H enc W n cs (fun f hf => by
    obtain ⟨i, hi⟩ := List.getElem?_of_mem hf
    have hi' : fs[i]? = some f := by simpa using hi
    have := h3 i f hi'
    have hlt : i < xs.length := by rw [h2]; exact (Array.getElem?_eq_some_iff.1 hi').1
    rw [List.getElem?_eq_getElem hlt] at this
    refine ⟨_, this, fun k hk => hz k ?_⟩
    simp only [DataW.weights, ht]
    exact DataW.weights_mem_each (j := i) (t := f.type) (d := xs[i].1) (by simp [hi]) (by simp [hlt]) k hk) (by omega)
  exact ⟨y, hy, fun C hC hO => by simpa using hr C hC hO⟩

/-- The same data told by other Lean values. -/
theorem Rd.map {T U : Type} {cells : T → List AV} {ok : T → Prop} (h : Rd P t cells ok) (f : T → U) {cells' : U → List AV} {ok' : U → Prop} (hc : ∀ x, cells' (f x) = cells x) (ho : ∀ x, ok x → ok' (f x)) : Rd P t cells' ok' := by
  intro H enc W fuel cs x hx hz
  obtain ⟨y, hy, hr⟩ := h H enc W fuel cs x hx hz
  exact ⟨f y, ho y hy, fun C hC hO => by rw [hc]; exact hr C hC hO⟩

/-- An argument: one of many cells is an aggregate. -/
def Arg (P : Program) (t : TypeId) {T : Type} (av : T → AV) (ok : T → Prop) : Prop :=
  ∀ (H : Type) (enc : TypeId × Value → H) (W : World) (base : Nat) (v : Value) (d : DataW H) (ps : List MemPlace), Value.okWide P W .any base t v → DataW.Trod enc P W 0 (fun _ => true) true t v d ps → (∀ n ∈ d.weights P t, n ≤ reachBytes) →
    ∃ y : T, ok y ∧ ∀ C : Ctx, C.w = W → (∀ b, ¬ C.O b) → VRel C (av y) v

theorem arg_agg {T : Type} {cells : T → List AV} {ok : T → Prop} (h : Rd P t cells ok) (ha : (∃ fs, P.underlying t = some (.struct fs)) ∨ ∃ n e, P.underlying t = some (.array n e)) : Arg P t (fun y : T => .agg (cells y)) ok := by
  intro H enc W base v d ps hv ⟨fuel, hd⟩ hz
  have : ∃ cs, v = .agg cs := by
    unfold Value.okWide at hv
    rcases ha with ⟨fs, ha⟩ | ⟨n, e, ha⟩ <;> rw [ha] at hv <;> obtain ⟨cs, h, _⟩ := hv <;> exact ⟨cs, h⟩
  obtain ⟨cs, rfl⟩ := this
  obtain ⟨y, hy, hr⟩ := h H enc W fuel _ _ hd hz
  exact ⟨y, hy, fun C hC hO => LRel.agg (by simpa [Value.cells] using hr C hC hO)⟩

theorem arg_one {T : Type} {av : T → AV} {ok : T → Prop} (h : Rd P t (fun y => [av y]) ok) (ha : ∀ W r base v, Value.okWide P W r base t v → v.cells = #[v]) : Arg P t av ok := by
  intro H enc W base v d ps hv ⟨fuel, hd⟩ hz
  obtain ⟨y, hy, hr⟩ := h H enc W fuel _ _ hd hz
  refine ⟨y, hy, fun C hC hO => ?_⟩
  have := hr C hC hO
  rw [ha W _ base v hv] at this
  exact this.head

theorem arg_bool (ht : P.underlying t = some .bool) : Arg P t (fun b : Bool => .bool b) (fun _ => True) :=
  arg_one (rd_bool ht) fun W r base v h => by obtain ⟨b, rfl⟩ := okWide_bool ht h; rfl
theorem arg_int {k : IntKind} (ht : P.underlying t = some (.int k)) : Arg P t (fun n : Int => .int k n) (fun n => k.min ≤ n ∧ n ≤ k.max) :=
  arg_one (rd_int ht) fun W r base v h => by obtain ⟨b, rfl⟩ := okWide_int ht h; rfl
theorem arg_str (ht : P.underlying t = some .string) : Arg P t (fun s : List UInt8 => .str s) (fun s => s.length ≤ reachBytes) :=
  arg_one (rd_str ht) fun W r base v h => by obtain ⟨b, rfl⟩ := okWide_string ht h; rfl
theorem arg_slice {T : Type} {cells : T → List AV} {ok : T → Prop} (ht : P.underlying t = some (.slice e)) (hpos : 0 < P.cellsOf e) (he : Rd P e cells ok) : Arg P t (fun l : List T => .imm (l.map cells) false false) (fun l => l.length * P.bytesOf e ≤ reachBytes ∧ ∀ y ∈ l, ok y) :=
  arg_one (rd_slice ht hpos he) fun W r base v h => by obtain ⟨a, b, c, rfl⟩ := okWide_slice ht h; rfl
end
end Go.Gz
