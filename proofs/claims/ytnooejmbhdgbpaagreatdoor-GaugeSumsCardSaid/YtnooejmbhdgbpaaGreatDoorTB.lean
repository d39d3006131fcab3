/- The table that a realm is given; it may be (run by the kernel). No condition. -/
import Derived.Test.YtnooejmbhdgbpaaGreatDoorRows
import Derived.Test.YtnooejmbhdgbpaaGreatDoorK22
import Derived.Test.YtnooejmbhdgbpaaGreatDoorK33
import Derived.Test.YtnooejmbhdgbpaaGreatDoorK43
import Derived.Test.YtnooejmbhdgbpaaGreatDoorK41
set_option linter.unusedVariables false
set_option linter.unusedSimpArgs false
namespace Go.Proofs.YtnooejmbhdgbpaaGreatDoor.gauge
open Go.ChangeShapes Go.WideShapes Go.ChangeAt Go.RowKit Go.Gz
section
variable {C : PCall} {n0 : Nat} {R : MExit → Env → AHeap → Prop} {k : Cont} {e : Env} {σ : AHeap}
abbrev r23_0 : List MOper := [⟨(some 0), .alloc [.nilslice, .nilslice, .int .i64 0, .bool false], none⟩]
def b23_0 : SCode := .region r23_0
abbrev r23_1 : List MOper := [⟨(some 1), .buildSlice [.int .i32 0] 1 2 [(0, 1, (.c (.int .i32 101))), (1, 1, (.c (.int .i32 769)))], none⟩,
  ⟨(some 2), .build [.int .i32 0, .int .i64 0, .nilslice] [(0, 1, (.c (.int .i32 233))), (2, 1, (.t 1))], none⟩,
  ⟨(some 3), .build [.int .i32 0, .int .i64 0, .nilslice] [(0, 1, (.c (.int .i32 769))), (1, 1, (.c (.int .i64 230)))], none⟩,
  ⟨(some 4), .buildSlice [.int .i32 0, .int .i64 0, .nilslice] 3 2 [(0, 3, (.t 2)), (3, 3, (.t 3))], none⟩,
  ⟨(some 5), .buildSlice [.int .i32 0] 1 1 [(0, 1, (.c (.int .i32 97)))], none⟩,
  ⟨(some 6), .build [.int .i64 0, .int .i64 0, .int .i64 0] [(0, 1, (.c (.int .i64 10))), (1, 1, (.c (.int .i64 32))), (2, 1, (.c (.int .i64 2)))], none⟩,
  ⟨(some 7), .buildSlice [.int .i64 0, .int .i64 0, .int .i64 0] 3 1 [(0, 3, (.t 6))], none⟩,
  ⟨(some 8), .build [.nilslice, .nilslice] [(0, 1, (.t 5)), (1, 1, (.t 7))], none⟩,
  ⟨(some 9), .buildSlice [.int .i32 0] 1 1 [(0, 1, (.c (.int .i32 98)))], none⟩,
  ⟨(some 10), .build [.int .i64 0, .int .i64 0, .int .i64 0] [(0, 1, (.c (.int .i64 11))), (1, 1, (.c (.int .i64 32))), (2, 1, (.c (.int .i64 2)))], none⟩,
  ⟨(some 11), .buildSlice [.int .i64 0, .int .i64 0, .int .i64 0] 3 1 [(0, 3, (.t 10))], none⟩,
  ⟨(some 12), .build [.nilslice, .nilslice] [(0, 1, (.t 9)), (1, 1, (.t 11))], none⟩,
  ⟨(some 13), .buildSlice [.int .i32 0] 1 1 [(0, 1, (.c (.int .i32 99)))], none⟩,
  ⟨(some 14), .build [.int .i64 0, .int .i64 0, .int .i64 0] [(0, 1, (.c (.int .i64 12))), (1, 1, (.c (.int .i64 32))), (2, 1, (.c (.int .i64 2)))], none⟩,
  ⟨(some 15), .buildSlice [.int .i64 0, .int .i64 0, .int .i64 0] 3 1 [(0, 3, (.t 14))], none⟩,
  ⟨(some 16), .build [.nilslice, .nilslice] [(0, 1, (.t 13)), (1, 1, (.t 15))], none⟩,
  ⟨(some 17), .buildSlice [.int .i32 0] 1 1 [(0, 1, (.c (.int .i32 101)))], none⟩,
  ⟨(some 18), .build [.int .i64 0, .int .i64 0, .int .i64 0] [(0, 1, (.c (.int .i64 13))), (1, 1, (.c (.int .i64 32))), (2, 1, (.c (.int .i64 2)))], none⟩,
  ⟨(some 19), .buildSlice [.int .i64 0, .int .i64 0, .int .i64 0] 3 1 [(0, 3, (.t 18))], none⟩,
  ⟨(some 20), .build [.nilslice, .nilslice] [(0, 1, (.t 17)), (1, 1, (.t 19))], none⟩,
  ⟨(some 21), .buildSlice [.int .i32 0] 1 1 [(0, 1, (.c (.int .i32 769)))], none⟩,
  ⟨(some 22), .build [.int .i64 0, .int .i64 0, .int .i64 0] [(1, 1, (.c (.int .i64 41))), (2, 1, (.c (.int .i64 2)))], none⟩,
  ⟨(some 23), .buildSlice [.int .i64 0, .int .i64 0, .int .i64 0] 3 1 [(0, 3, (.t 22))], none⟩,
  ⟨(some 24), .build [.nilslice, .nilslice] [(0, 1, (.t 21)), (1, 1, (.t 23))], none⟩,
  ⟨(some 25), .buildSlice [.nilslice, .nilslice] 2 5 [(0, 2, (.t 8)), (2, 2, (.t 12)), (4, 2, (.t 16)), (6, 2, (.t 20)), (8, 2, (.t 24))], none⟩,
  ⟨(some 26), .build [.nilslice, .nilslice, .int .i64 0, .bool false] [(0, 1, (.t 4)), (1, 1, (.t 25))], none⟩,
  ⟨none, .store 4 (.t 0) (.t 26), none⟩]
def b23_1 : SCode := .region r23_1
def b23_2 : SCode := .seq b23_1 .ret
def b23_3 : SCode := .seq b23_0 b23_2
def s23 : SFunc := ⟨27, [.cN 0 4], b23_3⟩
theorem c23 : sFn Tryz.prog 23 = some s23 := by kernel_rfl
theorem Z23 : XR b23_0 r23_0 ∧ XR b23_1 r23_1 ∧ XS b23_2 b23_1 .ret ∧ XS b23_3 b23_0 b23_2 ∧ XY s23 27 b23_3 [.cN 0 4] := ⟨rfl, rfl, rfl, rfl, rfl⟩

end
set_option maxHeartbeats 4000000
set_option maxRecDepth 10000
abbrev ru (n : Int) : AV := .int .i32 n
abbrev loreV : AV := .imm [[ru 233, .int .i64 0, .imm [[ru 101], [ru 769]] false false], [ru 769, .int .i64 230, .nilslice]] false false
abbrev elV (p s t : Int) : AV := .imm [[.int .i64 p, .int .i64 s, .int .i64 t]] false false
abbrev rowsR : List (List AV) := [[.imm [[ru 97]] false false, elV 10 32 2], [.imm [[ru 98]] false false, elV 11 32 2], [.imm [[ru 99]] false false, elV 12 32 2], [.imm [[ru 101]] false false, elV 13 32 2], [.imm [[ru 769]] false false, elV 0 41 2]]
abbrev tabC : List AV := [loreV, .imm rowsR false false, .int .i64 0, .bool false]
theorem tab_pure : pureL tabC = true := by kernel_rfl
/-- Rows of w cells each. -/
def chunk (w : Nat) : Nat → List AV → List (List AV)
  | 0, _ => []
  | k + 1, zs => zs.take w :: chunk w k (zs.drop w)
theorem chunk_len {w : Nat} : ∀ {k : Nat} {zs : List AV}, (chunk w k zs).length = k
  | 0, _ => rfl
  | k + 1, zs => by simp [chunk, chunk_len]
theorem chunk_flat {w : Nat} : ∀ {k : Nat} {zs : List AV}, zs.length = k * w → (chunk w k zs).flatten = zs
  | 0, zs, h => by simp at h; subst h; rfl
  | k + 1, zs, h => by
    rw [Nat.add_mul, Nat.one_mul] at h
    simp only [chunk, List.flatten_cons]
    rw [chunk_flat (by rw [List.length_drop]; omega), List.take_append_drop]
theorem chunk_row {w : Nat} : ∀ {k : Nat} {zs : List AV}, zs.length = k * w → ∀ r ∈ chunk w k zs, r.length = w
  | 0, zs, h, r, hr => by simp [chunk] at hr
  | k + 1, zs, h, r, hr => by
    rw [Nat.add_mul, Nat.one_mul] at h
    simp only [chunk, List.mem_cons] at hr
    rcases hr with rfl | hr
    · rw [List.length_take]; omega
    · exact chunk_row (by rw [List.length_drop]; omega) r hr
def allO (f : AV → Option AV) : List AV → Option (List AV)
  | [] => some []
  | x :: r => match f x, allO f r with
    | some y, some s => some (y :: s)
    | _, _ => none
theorem allO_at {f : AV → Option AV} : ∀ {xs ys : List AV}, allO f xs = some ys → xs.length = ys.length ∧ ∀ (i : Nat) x y, xs[i]? = some x → ys[i]? = some y → f x = some y
  | [], ys, h => by simp [allO] at h; subst h; exact ⟨rfl, fun i x y h => by simp at h⟩
  | x :: r, ys, h => by
    unfold allO at h
    split at h
    · rename_i y s h1 h2
      cases h
      obtain ⟨l, a⟩ := allO_at h2
      refine ⟨by simp [l], fun i u v hu hv => ?_⟩
      match i with
      | 0 => simp at hu hv; subst hu; subst hv; exact h1
      | i + 1 => exact a i u v (by simpa using hu) (by simpa using hv)
    · cases h
/-- What a value shows, as rows that nothing writes. -/
def frzV (σ : AHeap) : Nat → AV → Option AV
  | 0, x => if x.pure then some x else none
  | n + 1, .slice s off len cap esz => match (hget σ s).bind fun cells => sub cells off (len * esz) with
    | some ys => match allO (frzV σ n) ys with
      | some zs => if zs.length = len * esz then some (.imm (chunk esz len zs) false false) else none
      | none => none
    | none => none
  | n + 1, .agg xs => match allO (frzV σ n) xs with
    | some ys => some (.agg ys)
    | none => none
  | n + 1, x => if x.pure then some x else none
theorem frzV_ok {σ : AHeap} : ∀ {n : Nat} {x y : AV}, frzV σ n x = some y → Frz σ x y := by
  have pr : ∀ {x y : AV}, (if x.pure then some x else none) = some y → Frz σ x y := fun {x y} h => by
    split at h
    · cases h; exact .pure (by assumption)
    · cases h
  intro n
  induction n with
  | zero => intro x y h; exact pr (by simpa [frzV] using h)
  | succ n ih =>
    intro x y h
    cases x with
    | slice s off len cap esz =>
      simp only [frzV] at h
      split at h
      · rename_i ys h1
        split at h
        · rename_i zs h2
          split at h
          · rename_i h3
            cases h
            obtain ⟨cells, hc, hs⟩ := Option.bind_eq_some_iff.1 h1
            obtain ⟨l, a⟩ := allO_at h2
            exact .slice hc hs chunk_len (chunk_row h3) fun i y z hy hz => ih (a i y z hy (by rw [← chunk_flat h3]; exact hz))
          · cases h
        · cases h
      · cases h
    | agg xs =>
      simp only [frzV] at h
      split at h
      · rename_i ys h1
        cases h
        obtain ⟨l, a⟩ := allO_at h1
        exact .agg l fun i u v hu hv => ih (a i u v hu hv)
      · cases h
    | _ => exact pr (by simpa only [frzV] using h)
theorem table_ok : Tri Tryz.prog 23 [] [] fun r _ => r.pure = true ∧ r = .agg tabC := by
  refine Tri.frozen (Q := fun r σ => frzV σ 5 r = some (.agg tabC)) (Tri.of_s c23 (noCall_sound _) ?_) (fun r σ h => ⟨_, frzV_ok h, by rw [AV.pure]; exact tab_pure, rfl⟩)
  simp only [Z23, base1, baseX, baseY, ↓reduceIte, Nat.reduceAdd, Nat.reduceSub, Nat.reduceMul, Nat.reduceEqDiff, Nat.reduceLeDiff, Nat.reduceLT, Int.reduceLT, Int.reduceLE, Int.reduceEq, Int.reduceNe, Int.reduceToNat, Int.reduceAdd, Int.reduceSub, reduceCtorEq, Nat.reduceBEq, Nat.reduceBNe]
  rfl
def tableD (args : List AV) (σ : AHeap) (K : AV → AHeap → Prop) : Prop := args = [] ∧ K (.agg tabC) σ
theorem tableD_ok (args : List AV) (σ : AHeap) (K : AV → AHeap → Prop) (h : tableD args σ K) : Tri Tryz.prog 23 args σ K := by
  obtain ⟨rfl, h⟩ := h
  exact (Tri.pureD rfl table_ok σ).mono fun x σ' hr => by rw [hr.1, hr.2]; exact h
theorem tableD_eq {σ : AHeap} {K : AV → AHeap → Prop} : tableD [] σ K = K (.agg tabC) σ := by
  apply propext; exact ⟨fun h => h.2, fun h => ⟨rfl, h⟩⟩
noncomputable def yesZ (v : AV) : Bool := AV.rec (motive_1 := fun _ => Bool) (motive_2 := fun _ => Unit) (motive_3 := fun _ => Unit) (fun b => b) (fun _ _ => false) (fun _ => false) false (fun _ _ => false) (fun _ _ => false) false (fun _ _ _ _ _ => false) (fun _ _ _ _ => false) (fun _ _ _ => false) false (fun _ _ => false) (fun _ _ => false) false false false (fun _ _ _ => false) (fun _ _ => false) (fun _ => false) false () (fun _ _ _ _ => ()) () (fun _ _ _ _ => ()) v
theorem yesZ_ok {v : AV} (h : yesZ v = true) : v = .bool true := by
  cases v <;> first | (cases h; done) | (have h : _ = true := h; subst h; rfl)
theorem wmay_run : @Bool.rec (fun _ => Bool) false true ((zF (cFn Tryz.prog) 100 30 17).r [.agg tabC] TH.new (fun v _ => yesZ v)) = true := by kernel_rfl
theorem wmay_ok : Tri Tryz.prog 17 [.agg tabC] [] fun r _ => r.pure = true ∧ r = .bool true :=
  (@Tri.runZ Tryz.prog 17 [.agg tabC] 100 30 yesZ wmay_run).mono fun r σ h => by have := yesZ_ok h; subst this; exact ⟨rfl, rfl⟩
def wmayD (args : List AV) (σ : AHeap) (K : AV → AHeap → Prop) : Prop := args = [.agg tabC] ∧ K (.bool true) σ
theorem wmayD_ok (args : List AV) (σ : AHeap) (K : AV → AHeap → Prop) (h : wmayD args σ K) : Tri Tryz.prog 17 args σ K := by
  obtain ⟨rfl, h⟩ := h
  exact (Tri.pureD (by rw [pureL, AV.pure, tab_pure]; rfl) wmay_ok σ).mono fun x σ' hr => by rw [hr.1, hr.2]; exact h
theorem wmayD_eq {σ : AHeap} {K : AV → AHeap → Prop} : wmayD [.agg tabC] σ K = K (.bool true) σ := by
  apply propext; exact ⟨fun h => h.2, fun h => ⟨rfl, h⟩⟩
end Go.Proofs.YtnooejmbhdgbpaaGreatDoor.gauge

/- The gauges' first sentence, run by the kernel. No condition. -/
set_option linter.unusedVariables false
set_option linter.unusedSimpArgs false
namespace Go.Proofs.YtnooejmbhdgbpaaGreatDoor.gauge
open Go.ChangeShapes Go.WideShapes Go.ChangeAt Go.RowKit Go.Gz
set_option maxHeartbeats 4000000
set_option maxRecDepth 10000
/-- What is answered at once: the table; that it may be. -/
def ovA : Said := fun f => bif Nat.beq f 23 then some ([], .agg tabC) else bif Nat.beq f 17 then some ([.agg tabC], .bool true) else none
theorem ovA_ok : ∀ f p, ovA f = some p → pureL p.1 = true ∧ Tri Tryz.prog f p.1 [] fun r _ => r.pure = true ∧ r = p.2 := by
  intro f p h
  unfold ovA at h
  cases h1 : Nat.beq f 23 with
  | true =>
    rw [h1] at h
    have hf := Nat.eq_of_beq_eq_true h1
    subst hf
    cases h
    exact ⟨rfl, table_ok⟩
  | false =>
    rw [h1] at h
    cases h2 : Nat.beq f 17 with
    | true =>
      rw [h2] at h
      have hf := Nat.eq_of_beq_eq_true h2
      subst hf
      cases h
      exact ⟨by rw [pureL, AV.pure, tab_pure]; rfl, wmay_ok⟩
    | false => rw [h2] at h; cases h
theorem awake_run : @Bool.rec (fun _ => Bool) false true ((zFO ovA (cFn Tryz.prog) 100 40 5).r [] TH.new (fun v _ => yesZ v)) = true := by kernel_rfl
theorem awake_ok : Tri Tryz.prog 5 [] [] fun r _ => r.pure = true ∧ r = .bool true :=
  (@Tri.runO Tryz.prog 5 [] ovA ovA_ok 100 40 yesZ awake_run).mono fun r σ h => by have := yesZ_ok h; subst this; exact ⟨rfl, rfl⟩
def awakeD (args : List AV) (σ : AHeap) (K : AV → AHeap → Prop) : Prop := args = [] ∧ K (.bool true) σ
theorem awakeD_ok (args : List AV) (σ : AHeap) (K : AV → AHeap → Prop) (h : awakeD args σ K) : Tri Tryz.prog 5 args σ K := by
  obtain ⟨rfl, h⟩ := h
  exact (Tri.pureD rfl awake_ok σ).mono fun x σ' hr => by rw [hr.1, hr.2]; exact h
theorem awakeD_eq {σ : AHeap} {K : AV → AHeap → Prop} : awakeD [] σ K = K (.bool true) σ := by
  apply propext; exact ⟨fun h => h.2, fun h => ⟨rfl, h⟩⟩
end Go.Proofs.YtnooejmbhdgbpaaGreatDoor.gauge
