/- The row of a law, from what its function comes to on the abstract machine. -/
import Derived.Test.YtnooejmbhdgbpaaGreatDoorK21
set_option linter.unusedVariables false
set_option linter.unusedSimpArgs false
namespace Go.Gz
open Go.ChangeShapes Go.WideShapes Go.ChangeAt Go.RowKit

/-- It answers true. -/
def Yes (r : AV) (_ : AHeap) : Prop := r = .bool true

def isYes (r : AV) (_ : AHeap) : Bool := match r with | .bool b => b | _ => false

theorem isYes_ok {r : AV} {σ : AHeap} (h : isYes r σ = true) : Yes r σ := by
  unfold isYes at h
  split at h
  · subst h; rfl
  · cases h

/-- Arguments, one by one. -/
inductive Args (P : Program) : List TypeId → {T : Type} → (T → List AV) → (T → Prop) → Prop
  | nil : Args P [] (fun _ : Unit => []) (fun _ => True)
  | cons {t : TypeId} {ts : List TypeId} {T U : Type} {av : T → AV} {ok : T → Prop} {avs : U → List AV} {oks : U → Prop} : Arg P t av ok → Args P ts avs oks →
      Args P (t :: ts) (fun p : T × U => av p.1 :: avs p.2) (fun p => ok p.1 ∧ oks p.2)

theorem Args.of {P : Program} {H : Type} {enc : TypeId × Value → H} {W : World} {base : Nat} : ∀ {ts : List TypeId} {T : Type} {avs : T → List AV} {oks : T → Prop}, Args P ts avs oks → ∀ {vs : List Value} {ds : List (DataW H)} {ps : List MemPlace},
    (∀ (j : Nat) t v, ts[j]? = some t → vs[j]? = some v → Value.okWide P W .any base t v) → DataW.TrodAll enc P W 0 (fun _ => true) true ts vs ds ps → (∀ (j : Nat) t d, ts[j]? = some t → ds[j]? = some d → ∀ n ∈ d.weights P t, n ≤ reachBytes) → ∃ y : T, oks y ∧ ∀ C : Ctx, C.w = W → (∀ b, ¬ C.O b) → LRel C (avs y) vs := by
  intro ts T avs oks h
  induction h with
  | nil =>
    intro vs ds ps hv hd _
    obtain ⟨rfl, rfl, rfl⟩ := trodAll_nil hd
    exact ⟨(), trivial, fun C _ _ => .nil C⟩
  | cons ha hs ih =>
    intro vs ds ps hv hd hw
    obtain ⟨v, vs, d, ds', p, q, rfl, rfl, rfl, hd, hrest⟩ := trodAll_cons hd
    obtain ⟨y, hy, hr⟩ := ha H enc W base v d p (hv 0 _ _ rfl rfl) hd (hw 0 _ _ rfl rfl)
    obtain ⟨z, hz, hr'⟩ := ih (fun j t v ht hv' => hv (j + 1) t v ht hv') hrest (fun j t d ht hd' => hw (j + 1) t d ht hd')
    exact ⟨(y, z), ⟨hy, hz⟩, fun C hC hO => .cons (hr C hC hO) (hr' C hC hO)⟩

section
variable {P : Program} {H : Type} {enc : TypeId × Value → H}

theorem stays {W W' : World} (hl : laidOutB P = true) (hb : Below W.heap.size W W') : ∀ {ts : List TypeId} {vs : List Value} {ds : List (DataW H)} {ps : List MemPlace}, (∀ t ∈ ts, P.readableRec t = true ∧ t < P.types.size) → (∀ x ∈ ps, x.block < W.heap.size) →
    DataW.TrodAll enc P W 0 (fun _ => true) true ts vs ds ps → DataW.TrodAll enc P W' 0 (fun b => decide (b < W.heap.size)) true ts vs ds ps
  | [], vs, ds, ps, _, _, h => by
    obtain ⟨rfl, rfl, rfl⟩ := trodAll_nil h
    exact rfl
  | t :: ts, vs, ds, ps, ht, hp, h => by
    obtain ⟨v, vs, d, ds', p, q, rfl, rfl, rfl, hd, hrest⟩ := trodAll_cons h
    obtain ⟨h1, h2⟩ := ht t (.head _)
    exact ⟨p, q, Below.trod hl h1 h2 hd hb (fun x hx => hp x (by simp [hx])), stays hl hb (fun t ht' => ht t (.tail _ ht')) (fun x hx => hp x (by simp [hx])) hrest, rfl⟩

/-- 'post_of_same', of old memory alone. -/
theorem post_of_below {f : Func} {s : ChangeSpec} {apart fresh handsOn : Bool} {W W' : World} {args : Array Value} {v : Value} {ds gs : List (DataW H)} {before pa pv : List MemPlace}
    (hW : DataW.Whole enc P f.params.toList s.vars apart W args.toList ds gs before)
    (hres : ∀ (b : Nat) (sp : Nat → Bool) (hd : Bool), DataW.TrodAll enc P W' b sp hd f.resultTypes.toList (v.resultList f.resultTypes.size) (s.fn H (ds ++ gs)).results [])
    (hargs : DataW.TrodAll enc P W' 0 (fun b => decide (b < W.heap.size)) true f.params.toList args.toList (s.fn H (ds ++ gs)).args pa)
    (hvars : DataW.TrodVars enc P W' (fun b => decide (b < W.heap.size)) s.vars (s.fn H (ds ++ gs)).vars pv)
    (hps : before = pa ++ pv) (hk : W.keptBut W' (· ∈ before)) :
    s.post enc P f apart fresh handsOn false W args v W' := by
  refine ⟨ds, gs, before, [], pa, pv, hW, hres _ _ _, hargs, hvars, World.keptBut_mono (fun p hp => ⟨hp, ?_⟩) hk, fun h => by cases h⟩
  rw [hps, List.mem_append] at hp
  exact Or.inr hp

theorem below_of_keeps {ρ ρ' : Nat → Place} {σ' : AHeap} {W W' : World} (k : Keeps [] ρ W σ' ρ' W') : Below W.heap.size W W' :=
  ⟨k.os, k.tape, k.output, k.size, fun b hb => k.frame b hb (by rintro ⟨id, c, h, _⟩; simp at h)⟩

/-- At the beginning nothing is the call's own. -/
theorem init_wrel {W : World} (hlaid : Laid W) : WRel [] (fun _ => ⟨0, 0, 0, true, 0⟩) W (fun _ => False) := by
  refine ⟨fun id c h => by simp at h, fun id c h => by simp at h, fun id id' c c' h => by simp at h, fun id c h => by simp at h, fun b h => h.elim, W, hlaid, fun b hb => ⟨?_, rfl⟩⟩
  rintro (⟨id, c, h, _⟩ | h)
  · simp at h
  · exact h

/-- A law that names no variable. -/
theorem calls_post {f : FuncId} {fn : Func} {s : ChangeSpec} {apart fresh handsOn : Bool} {W : World} {base : Nat} {args : Array Value} {ds gs : List (DataW H)} {before : List MemPlace} {T : Type} {avs : T → List AV} {oks : T → Prop} {tb : TypeId}
    (hl : laidOutB P = true) (hps : ∀ t ∈ fn.params.toList, P.readableRec t = true ∧ t < P.types.size) (hr : fn.resultTypes = #[tb]) (htb : P.underlying tb = some .bool) (hv : s.vars = [])
    (hfn : ∀ ds : List (DataW H), ds.length = fn.params.toList.length → s.fn H ds = { results := [.lit (.bool true)], args := ds })
    (hA : Args P fn.params.toList avs oks) (h : ∀ y, oks y → Tri P f (avs y) [] Yes)
    (hval : ∀ (j : Nat) t v, fn.params[j]? = some t → args[j]? = some v → Value.okWide P W .any base t v) (hW : DataW.Whole enc P fn.params.toList s.vars apart W args.toList ds gs before)
    (hz : (DataW.weightsEach P (fn.params.toList ++ s.plain.varTypes P) (ds ++ gs)).all (· ≤ reachBytes) = true) (hlaid : Laid W) :
    Calls P f args W fun e W' => ∃ v, e = .returned v ∧ s.post enc P fn apart fresh handsOn false W args v W' := by
  have hW' := hW
  obtain ⟨p, q, hA0, hV, rfl, hfz, hnd⟩ := hW
  rw [hv] at hV
  obtain ⟨rfl, rfl⟩ := trodVars_none hV
  obtain ⟨y, hy, hrel⟩ := hA.of (fun j t v ht hv' => hval j t v (by simpa using ht) (by simpa using hv')) hA0 (fun j t d ht hd n hn => by
    have h1 : n ∈ DataW.weightsEach P (fn.params.toList ++ s.plain.varTypes P) (ds ++ []) := DataW.weights_mem_each (j := j) (by rw [List.getElem?_append_left (List.getElem?_eq_some_iff.1 ht).1]; exact ht) (by simpa using hd) n hn
    have h2 := List.all_eq_true.1 hz n h1
    simpa using h2)
  have hlen : ds.length = fn.params.toList.length := by
    have : ∀ {ts : List TypeId} {vs : List Value} {ds : List (DataW H)} {ps : List MemPlace}, DataW.TrodAll enc P W 0 (fun _ => true) true ts vs ds ps → ds.length = ts.length := by
      intro ts
      induction ts with
      | nil => intro vs ds ps h; obtain ⟨_, rfl, _⟩ := trodAll_nil h; rfl
      | cons t ts ih => intro vs ds ps h; obtain ⟨v, vs, d, ds', p, q, rfl, rfl, rfl, hd, hrest⟩ := trodAll_cons h; simp [ih hrest]
    exact this hA0
  have hwr : WRel [] (fun _ => ⟨0, 0, 0, true, 0⟩) W (fun _ => False) := init_wrel hlaid
  refine ((h y hy).2 _ W (fun _ => False) args hwr (hrel _ rfl (by rintro b (⟨id, c, h, _⟩ | h); · simp at h
                                                                   · exact h))).mono ?_
  rintro e W' ⟨v, ρ', r, σ', rfl, rfl, k, _, hvr⟩
  cases hvr
  have hb := below_of_keeps k
  refine ⟨_, rfl, post_of_below (pa := p) (pv := []) hW' (fun b sp hd => ?_) ?_ ?_ rfl (hb.frame _)⟩
  · rw [List.append_nil, hfn ds hlen, hr]
    exact trodAll_cons_mk (shut_bool htb _) trodAll_mk0
  · rw [List.append_nil, hfn ds hlen]
    exact stays hl hb hps (fun x hx => hW'.lt x (by simp [hx])) hA0
  · rw [List.append_nil, hfn ds hlen, hv]
    exact rfl

end
end Go.Gz
