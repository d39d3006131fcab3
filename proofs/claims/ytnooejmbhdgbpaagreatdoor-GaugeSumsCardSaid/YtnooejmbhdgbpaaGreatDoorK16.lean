/- Regions that draw their order: what every order has in common. -/
import Derived.Test.YtnooejmbhdgbpaaGreatDoorK15
import Derived.Orders
set_option linter.unusedVariables false
set_option linter.unusedSimpArgs false
namespace Go.Gz

def depsOf (o : Oper) : List Nat := (o.after.toList.filter (Region.binds .any)).map (·.on)

def opdSlot : Opd → List Nat
  | .t n => [n]
  | .c _ => []

/-- The slots that an operation reads. -/
def slotsOf : MOp → List Nat
  | .move x | .nilCheck x | .box x | .load1 x | .loadN _ x | .un _ x | .convInt _ x | .convSame x | .resame x | .toBytes x | .ofBytes x | .fieldAddr _ x | .field1 _ x | .fieldN _ _ x | .extract x _ | .lenStr x | .lenSl x | .capOf x => opdSlot x
  | .pick a b c => opdSlot a ++ opdSlot b ++ opdSlot c
  | .alloc _ | .lenArr _ => []
  | .build _ ps => ps.flatMap fun (_, _, x) => opdSlot x
  | .buildSlice _ _ _ ps => ps.flatMap fun (_, _, x) => opdSlot x
  | .store _ a x | .bin _ _ a x | .makeSlice _ _ _ a x | .indexAddr _ a x | .indexArrAddr _ _ a x | .indexStr a x | .indexArr1 _ a x | .indexArrN _ _ a x | .append _ _ a x | .copy _ a x => opdSlot a ++ opdSlot x
  | .mkfunc _ xs | .minmax _ xs | .call _ xs | .ext _ xs => xs.flatMap opdSlot
  | .sliceStr x lo hi => opdSlot x ++ (lo.toList ++ hi.toList).flatMap opdSlot
  | .slice _ x lo hi mx | .sliceArr _ _ x lo hi mx => opdSlot x ++ (lo.toList ++ hi.toList ++ mx.toList).flatMap opdSlot
  | .callv f xs => opdSlot f ++ xs.flatMap opdSlot

def slotsG (o : MOper) : List Nat := slotsOf o.op ++ (match o.guard with | some (t, _) => [t] | none => [])

/-- Operations that leave the heap alone and don't ask it. -/
def isPure : MOp → Bool
  | .move _ | .nilCheck _ | .pick _ _ _ | .build _ _ | .bin _ _ _ _ | .un _ _ | .convInt _ _ | .convSame _ | .mkfunc _ _ | .sliceStr _ _ _ | .slice _ _ _ _ _ | .fieldAddr _ _ | .field1 _ _ | .fieldN _ _ _ | .indexAddr _ _ _ | .indexArrAddr _ _ _ _
  | .indexStr _ _ | .indexArr1 _ _ _ | .indexArrN _ _ _ _ | .extract _ _ | .lenStr _ | .lenSl _ | .lenArr _ | .minmax _ _ | .capOf _ => true
  | _ => false

theorem opd_congr {e e' : Env} {x : Opd} (h : ∀ t ∈ opdSlot x, e t = e' t) : x.ev e = x.ev e' := by
  cases x with
  | t n => exact h n (by simp [opdSlot])
  | c v => rfl

theorem opds_congr {e e' : Env} : ∀ {xs : List Opd}, (∀ t ∈ xs.flatMap opdSlot, e t = e' t) → xs.map (·.ev e) = xs.map (·.ev e')
  | [], _ => rfl
  | x :: r, h => by
    simp only [List.map_cons]
    rw [opd_congr (fun t ht => h t (by simp [ht])), opds_congr (fun t ht => h t (by rw [List.flatMap_cons]; exact List.mem_append_right _ ht))]

theorem opt_congr {e e' : Env} {x : Option Opd} (h : ∀ t ∈ x.toList.flatMap opdSlot, e t = e' t) : x.map (Opd.ev e) = x.map (Opd.ev e') := by
  cases x with
  | none => rfl
  | some y => simp only [Option.map_some]; rw [opd_congr (fun t ht => h t (by simpa using ht))]

theorem parts_congr {e e' : Env} : ∀ {ps : List (Nat × Nat × Opd)}, (∀ t ∈ ps.flatMap (fun (_, _, x) => opdSlot x), e t = e' t) → (ps.map fun (o, s, x) => (o, s, x.ev e)) = ps.map fun (o, s, x) => (o, s, x.ev e')
  | [], _ => rfl
  | (o, s, x) :: r, h => by
    simp only [List.map_cons]
    rw [opd_congr (fun t ht => h t (by simp [ht])), parts_congr (fun t ht => h t (by rw [List.flatMap_cons]; exact List.mem_append_right _ ht))]

theorem ev_congr {e e' : Env} {m : MOp} (σ : AHeap) (h : ∀ t ∈ slotsOf m, e t = e' t) : evOp (Opd.ev e) σ m = evOp (Opd.ev e') σ m := by
  cases m with
  | pick a b c => simp only [evOp]; rw [opd_congr (e := e) (e' := e') (x := a) (fun t ht => h t (by simp [slotsOf, ht])), opd_congr (e := e) (e' := e') (x := b) (fun t ht => h t (by simp [slotsOf, ht])), opd_congr (e := e) (e' := e') (x := c) (fun t ht => h t (by simp [slotsOf, ht]))]
  | alloc _ | lenArr _ => rfl
  | build z ps | buildSlice z a b ps => simp only [evOp]; rw [parts_congr h]
  | mkfunc f xs | minmax f xs | ext f xs =>
    have := opds_congr (e := e) (e' := e') (xs := xs) h
    simp only [evOp]
    first | rw [show xs.map (Opd.ev e) = xs.map (Opd.ev e') from this] | skip
  | sliceStr x lo hi =>
    simp only [evOp]
    rw [opd_congr (e := e) (e' := e') (x := x) (fun t ht => h t (by simp [slotsOf, ht])), opt_congr (e := e) (e' := e') (x := lo) (fun t ht => h t (by simp only [slotsOf, List.flatMap_append, List.mem_append]; exact .inr (.inl ht))), opt_congr (e := e) (e' := e') (x := hi) (fun t ht => h t (by simp only [slotsOf, List.flatMap_append, List.mem_append]; exact .inr (.inr ht)))]
  | slice s x lo hi mx =>
    simp only [evOp]
    rw [opd_congr (e := e) (e' := e') (x := x) (fun t ht => h t (by simp [slotsOf, ht])), opt_congr (e := e) (e' := e') (x := lo) (fun t ht => h t (by simp only [slotsOf, List.flatMap_append, List.mem_append]; exact .inr (.inl (.inl ht)))), opt_congr (e := e) (e' := e') (x := hi) (fun t ht => h t (by simp only [slotsOf, List.flatMap_append, List.mem_append]; exact .inr (.inl (.inr ht)))), opt_congr (e := e) (e' := e') (x := mx) (fun t ht => h t (by simp only [slotsOf, List.flatMap_append, List.mem_append]; exact .inr (.inr ht)))]
  | sliceArr n s x lo hi mx =>
    simp only [evOp]
    rw [opd_congr (e := e) (e' := e') (x := x) (fun t ht => h t (by simp [slotsOf, ht])), opt_congr (e := e) (e' := e') (x := lo) (fun t ht => h t (by simp only [slotsOf, List.flatMap_append, List.mem_append]; exact .inr (.inl (.inl ht)))), opt_congr (e := e) (e' := e') (x := hi) (fun t ht => h t (by simp only [slotsOf, List.flatMap_append, List.mem_append]; exact .inr (.inl (.inr ht)))), opt_congr (e := e) (e' := e') (x := mx) (fun t ht => h t (by simp only [slotsOf, List.flatMap_append, List.mem_append]; exact .inr (.inr ht)))]
  | call f xs | callv f xs => rfl
  | store n a x | bin n k a x | makeSlice z n k a x | indexAddr n a x | indexArrAddr n k a x | indexStr a x | indexArr1 n a x | indexArrN n k a x | append n k a x | copy n a x =>
    simp only [evOp]
    rw [opd_congr (e := e) (e' := e') (x := a) (fun t ht => h t (by simp [slotsOf, ht])), opd_congr (e := e) (e' := e') (x := x) (fun t ht => h t (by simp [slotsOf, ht]))]
  | _ => simp only [evOp]; rw [opd_congr h]

theorem wpOp_congr {P : Program} {e e' : Env} {m : MOp} {σ : AHeap} {K : AV → AHeap → Prop} (h : ∀ t ∈ slotsOf m, e t = e' t) (hk : wpOp P m e σ K) : wpOp P m e' σ K := by
  cases hm : callOf m with
  | false =>
    obtain ⟨v, σ', h1, h2⟩ := wpOp_ev hm hk
    rw [ev_congr σ h] at h1
    unfold wpOp
    split
    · simp [callOf] at hm
    · simp [callOf] at hm
    · rw [h1]; exact h2
  | true =>
    cases m <;> simp [callOf] at hm
    · simp only [wpOp] at hk ⊢
      rw [← opds_congr h]; exact hk
    · rename_i f xs
      simp only [wpOp] at hk ⊢
      rw [← opd_congr (e := e) (e' := e') (x := f) (fun t ht => h t (by simp [slotsOf, ht])), ← opds_congr (e := e) (e' := e') (xs := xs) (fun t ht => h t (by simp only [slotsOf, List.mem_append]; exact .inr ht))]
      exact hk

theorem pure_ev {g : Opd → AV} {σ : AHeap} {m : MOp} {v : AV} {σ' : AHeap} (hm : isPure m = true) (h : evOp g σ m = some (v, σ')) : σ' = σ ∧ ∀ σ2, evOp g σ2 m = some (v, σ2) := by
  have mp : ∀ {α : Type} {o : Option α} {f : α → AV}, (o.map fun y => (f y, σ)) = some (v, σ') → σ' = σ ∧ ∀ σ2 : AHeap, (o.map fun y => (f y, σ2)) = some (v, σ2) := by
    intro α o f hh
    cases o with
    | none => simp at hh
    | some y => simp at hh; exact ⟨hh.2.symm, fun σ2 => by simp [hh.1]⟩
  have mb : ∀ {α β : Type} {o : Option α} {q : α → Option β} {f : β → AV}, (o.bind fun k => (q k).map fun y => (f y, σ)) = some (v, σ') → σ' = σ ∧ ∀ σ2 : AHeap, (o.bind fun k => (q k).map fun y => (f y, σ2)) = some (v, σ2) := by
    intro α β o q f hh
    cases o with
    | none => simp at hh
    | some k => exact mp (o := q k) (f := f) hh
  cases m <;> simp only [isPure] at hm <;> (try (cases hm; done)) <;> simp only [evOp] at h ⊢
  all_goals first
    | exact mp h
    | (cases h; exact ⟨rfl, fun _ => rfl⟩)
    | (split at h <;> first | (cases h; exact ⟨rfl, fun _ => rfl⟩) | exact mp h | exact mb h | (cases h; done))

theorem read_ev {e : Env} {σ : AHeap} {m : MOp} {v : AV} {σ' : AHeap} (hm : isRead m = true) (h : evOp (Opd.ev e) σ m = some (v, σ')) : σ' = σ := by
  have mp : ∀ {α : Type} {o : Option α} {f : α → AV}, (o.map fun y => (f y, σ)) = some (v, σ') → σ' = σ := by
    intro α o f hh
    cases o with
    | none => simp at hh
    | some y => simp at hh; exact hh.2.symm
  cases m <;> simp only [isRead] at hm <;> (try (cases hm; done)) <;> simp only [evOp] at h
  all_goals first
    | exact mp h
    | ((repeat' split at h) <;> first | exact mp h | (cases h; done))

theorem fix_ev {e e' : Env} {σ : AHeap} {m : MOp} (hm : isRead m = true) : evOp (Opd.ev e') σ (fixOp e m) = evOp (Opd.ev e) σ m := by
  cases m <;> simp only [isRead] at hm <;> (try (cases hm; done)) <;> simp only [fixOp, evOp, Opd.ev, Option.map_map] <;> rfl

end Go.Gz
