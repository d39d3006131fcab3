/- A run by the kernel in which some calls are answered at once: those whose answers are proved. No condition. -/
import Derived.Test.YtnooejmbhdgbpaaGreatDoorK36
set_option linter.unusedVariables false
set_option linter.unusedSimpArgs false
namespace Go.Gz
/-- What is answered at once: of a function its arguments, and the answer. -/
abbrev Said := FuncId → Option (List AV × AV)
def bFO (OV : Said) (T : FuncId → Option MFunc) (L : Nat) : Nat → BCall
  | 0 => fun _ _ _ _ => false
  | n + 1 => fun f args σ K =>
    match OV f with
    | some p => if AV.sames args p.1 = true then K p.2 σ else (match T f with
      | some mf => Nat.ble args.length mf.n && bC (bFO OV T L n) L mf.body (bRet mf.results K) (argEnv args) σ
      | none => false)
    | none => match T f with
      | some mf => Nat.ble args.length mf.n && bC (bFO OV T L n) L mf.body (bRet mf.results K) (argEnv args) σ
      | none => false
theorem bRet_ok {P : Program} {call : BCall} (hc : CallOk P call) {f : FuncId} {mf : MFunc} (hf : cFn P f = some mf) {L : Nat} {args : List AV} {σ : AHeap} {K : AV → AHeap → Bool} (h : (Nat.ble args.length mf.n && bC call L mf.body (bRet mf.results K) (argEnv args) σ) = true) :
    Tri P f args σ fun r σ' => K r σ' = true := by
  rw [Bool.and_eq_true] at h
  refine Tri.intro hf (Nat.le_of_ble_eq_true h.1) (wpC_mono ?_ (bC_ok hc h.2))
  intro x e σ h
  unfold bRet at h
  unfold RetQ
  split at h
  · cases h
  · split at h
    · rename_i hx _ vs hvs
      cases x with
      | normal => simp [hvs]; exact h
      | exit i => exact absurd rfl (hx i)
      | ret => simp [hvs]; exact h
    · cases h
theorem bFO_ok {P : Program} {OV : Said} (hO : ∀ f p, OV f = some p → pureL p.1 = true ∧ Tri P f p.1 [] fun r _ => r.pure = true ∧ r = p.2) {L : Nat} : ∀ n, CallOk P (bFO OV (cFn P) L n)
  | 0 => fun f args σ K h => by cases h
  | n + 1 => fun f args σ K h => by
    have rest : (match cFn P f with
      | some mf => Nat.ble args.length mf.n && bC (bFO OV (cFn P) L n) L mf.body (bRet mf.results K) (argEnv args) σ
      | none => false) = true → Tri P f args σ fun r σ' => K r σ' = true := by
      intro h
      split at h
      · rename_i mf hmf; exact bRet_ok (bFO_ok hO n) hmf h
      · cases h
    unfold bFO at h
    split at h
    · rename_i p hp
      split at h
      · rename_i hs
        have := AV.sames_eq hs
        subst this
        obtain ⟨h1, h2⟩ := hO f p hp
        exact (Tri.pureD h1 h2 σ).mono fun r σ' hr => by rw [hr.1, hr.2]; exact h
      · exact rest h
    · exact rest h
noncomputable def zFO (OV : Said) (F : FuncId → Option MFunc) (L : Nat) (n : Nat) : FuncId → Cf :=
  Nat.rec (motive := fun _ => FuncId → Cf) (fun _ => ⟨fun _ _ _ => false⟩) (fun _ ih f =>
    Option.rec (motive := fun _ => Cf) (Option.rec (motive := fun _ => Cf) ⟨fun _ _ _ => false⟩ (fun mf => zMk ih L mf) (F f))
      (fun p => ⟨fun args H K => Bool.rec (motive := fun _ => Bool) ((@Option.rec MFunc (fun _ => Cf) ⟨fun _ _ _ => false⟩ (fun mf => zMk ih L mf) (F f)).r args H K) (K p.2 H) (AV.sames args p.1)⟩) (OV f)) n
theorem zMk_eq {call : FuncId → Cf} {bcall : BCall} (hc : SameZ call bcall) {L : Nat} (mf : MFunc) {args : List AV} {H : TH} {K' : AV → TH → Bool} {K : AV → AHeap → Bool} (hk : ∀ v H, K' v H = K v H.toL) :
    (zMk call L mf).r args H K' = (Nat.ble args.length mf.n && bC bcall L mf.body (bRet mf.results K) (argEnv args) H.toL) := by
  show @Bool.rec (fun _ => Bool) false ((zC (zDepth mf.n) call L mf.body).r (zRet (zRes (zDepth mf.n) mf.results) K') (T4.full (zDepth mf.n) (zArg args)) H) (Nat.ble (zLen args) mf.n) = _
  rw [zC_eq (zDepth mf.n) hc mf.body (fun x T H => zRet_eq (zDepth mf.n) hk x T H), zLen_eq]
  rw [show (T4.full (zDepth mf.n) (zArg args)).get = argEnv args from funext fun k => (T4.get_full _ _ k).trans (zArg_eq args k)]
  cases Nat.ble args.length mf.n <;> simp
theorem zFO_eq (OV : Said) (F : FuncId → Option MFunc) (L : Nat) : ∀ n, SameZ (zFO OV F L n) (bFO OV F L n)
  | 0 => fun _ _ _ _ _ _ => rfl
  | n + 1 => fun f args H K' K hk => by
    have base : (@Option.rec MFunc (fun _ => Cf) ⟨fun _ _ _ => false⟩ (fun mf => zMk (zFO OV F L n) L mf) (F f)).r args H K' = (match F f with
      | some mf => Nat.ble args.length mf.n && bC (bFO OV F L n) L mf.body (bRet mf.results K) (argEnv args) H.toL
      | none => false) := by
      cases F f with
      | none => rfl
      | some mf => exact zMk_eq (zFO_eq OV F L n) mf hk
    show Cf.r (@Option.rec (List AV × AV) (fun _ => Cf) (@Option.rec MFunc (fun _ => Cf) ⟨fun _ _ _ => false⟩ (fun mf => zMk (zFO OV F L n) L mf) (F f))
      (fun p => ⟨fun args H K => @Bool.rec (fun _ => Bool) ((@Option.rec MFunc (fun _ => Cf) ⟨fun _ _ _ => false⟩ (fun mf => zMk (zFO OV F L n) L mf) (F f)).r args H K) (K p.2 H) (AV.sames args p.1)⟩) (OV f)) args H K' = _
    unfold bFO
    cases OV f with
    | none => exact base
    | some p =>
      show @Bool.rec (fun _ => Bool) ((@Option.rec MFunc (fun _ => Cf) ⟨fun _ _ _ => false⟩ (fun mf => zMk (zFO OV F L n) L mf) (F f)).r args H K') (K' p.2 H) (AV.sames args p.1) = _
      rw [brec, base, hk]
/-- A closed call, run by the kernel, some calls answered at once. -/
theorem Tri.runO {P : Program} {f : FuncId} {args : List AV} (OV : Said) (hO : ∀ f p, OV f = some p → pureL p.1 = true ∧ Tri P f p.1 [] fun r _ => r.pure = true ∧ r = p.2) (L n : Nat) (K : AV → Bool)
    (h : @Bool.rec (fun _ => Bool) false true ((zFO OV (cFn P) L n f).r args TH.new (fun v _ => K v)) = true) : Tri P f args [] fun r _ => K r = true := by
  have h : (zFO OV (cFn P) L n f).r args TH.new (fun v _ => K v) = true := by
    revert h
    cases (zFO OV (cFn P) L n f).r args TH.new (fun v _ => K v) <;> intro h
    · exact h
    · rfl
  have e := zFO_eq OV (cFn P) L n f args TH.new (fun v _ => K v) (fun v _ => K v) (fun v H => rfl)
  rw [TH.new_eq] at e
  refine bFO_ok hO (L := L) n f args [] (fun v _ => K v) ?_
  rw [← e]
  exact h
end Go.Gz
