/- A run of the abstract machine that a kernel can do: what it comes to holds. -/
import Derived.Test.YtnooejmbhdgbpaaGreatDoorK19
set_option linter.unusedVariables false
set_option linter.unusedSimpArgs false
namespace Go.Gz
abbrev BCall := FuncId → List AV → AHeap → (AV → AHeap → Bool) → Bool
def k1 (o : Option AV) (σ : AHeap) : Option (AV × AHeap) :=
  match o with
  | some v => some (v, σ)
  | none => none
def kA (o : Option (List AV)) (σ : AHeap) : Option (AV × AHeap) :=
  match o with
  | some v => some (.agg v, σ)
  | none => none
theorem k1_eq (o : Option AV) (σ : AHeap) : k1 o σ = o.map (·, σ) := by cases o <;> rfl
theorem kA_eq (o : Option (List AV)) (σ : AHeap) : kA o σ = o.map (.agg ·, σ) := by cases o <;> rfl
def kNil (v : AV) (σ : AHeap) : Option (AV × AHeap) :=
  match v with
  | .ptr id off => some (.ptr id off, σ)
  | .iptr cs => some (.iptr cs, σ)
  | .bptr id t => some (.bptr id t, σ)
  | .func f cs => some (.func f cs, σ)
  | _ => none
def kPick (c a b : AV) (σ : AHeap) : Option (AV × AHeap) :=
  match c with
  | .bool t => bif t then some (a, σ) else some (b, σ)
  | _ => none
def kBox (v : AV) (σ : AHeap) : Option (AV × AHeap) :=
  match v.cells? with
  | some cs => some (.ptr σ.length 0, hpush σ cs)
  | none => none
def kBuild (zero : List AV) (ps : List (Nat × Nat × AV)) (σ : AHeap) : Option (AV × AHeap) := kA (fillParts zero ps) σ
def kBuildSlice (zero : List AV) (esz len : Nat) (ps : List (Nat × Nat × AV)) (σ : AHeap) : Option (AV × AHeap) :=
  match fillParts ((List.replicate len zero).flatten) ps with
  | some cs => some (.slice σ.length 0 len (some len) esz, hpush σ cs)
  | none => none
def kStore (n : Nat) (a v : AV) (σ : AHeap) : Option (AV × AHeap) :=
  match a with
  | .ptr id off => match v.cells? with
    | some cs => bif Nat.beq cs.length n && cs.all (·.isCell) then (match (hget σ id).bind (put · off cs) with | some r => some (.unk, hset σ id r) | none => none) else none
    | none => none
  | _ => none
def kConv (k : IntKind) (v : AV) (σ : AHeap) : Option (AV × AHeap) :=
  match v with
  | .int _ n => some (.int k (k.wrap n), σ)
  | _ => none
def kSame (v : AV) (σ : AHeap) : Option (AV × AHeap) :=
  match v with
  | .str s => some (.str s, σ)
  | _ => none
def kResame (v : AV) (σ : AHeap) : Option (AV × AHeap) :=
  match v with
  | .slice id off len cap esz => bif Nat.blt 0 len && (hget σ id).isSome then some (.slice id off len cap esz, σ) else none
  | _ => none
def kToBytes (v : AV) (σ : AHeap) : Option (AV × AHeap) :=
  match v with
  | .str s => some (grown σ 1 s.length (s.map byteAV))
  | _ => none
def kOfBytes (v : AV) (σ : AHeap) : Option (AV × AHeap) :=
  match ofBytes σ v with
  | some s => some (.str s, σ)
  | none => none
def kLenSl (v : AV) (σ : AHeap) : Option (AV × AHeap) :=
  match lenSl v with
  | some n => some (.int .i64 (n : Int), σ)
  | none => none
def kLenStr (v : AV) (σ : AHeap) : Option (AV × AHeap) :=
  match v with
  | .str s => some (.int .i64 (s.length : Int), σ)
  | _ => none
def kField1 (off : Nat) (v : AV) (σ : AHeap) : Option (AV × AHeap) :=
  match v with
  | .agg cs => k1 cs[off]? σ
  | _ => none
def kFieldN (off n : Nat) (v : AV) (σ : AHeap) : Option (AV × AHeap) :=
  match v with
  | .agg cs => kA (sub cs off n) σ
  | _ => none
def kExtract (i : Nat) (v : AV) (σ : AHeap) : Option (AV × AHeap) :=
  match v with
  | .tuple vs => k1 vs[i]? σ
  | _ => none
/-- The same as 'evOp', of small parts. -/
def evK (g : Opd → AV) (σ : AHeap) (m : MOp) : Option (AV × AHeap) :=
  match m with
  | .move x => some (g x, σ)
  | .nilCheck x => kNil (g x) σ
  | .pick c a b => kPick (g c) (g a) (g b) σ
  | .alloc zero => some (.ptr σ.length 0, hpush σ zero)
  | .box x => kBox (g x) σ
  | .build zero parts => kBuild zero (parts.map fun (o, s, x) => (o, s, g x)) σ
  | .buildSlice zero esz len parts => kBuildSlice zero esz len (parts.map fun (o, s, x) => (o, s, g x)) σ
  | .load1 a => k1 (ldCell σ (g a)) σ
  | .loadN n a => kA (ldCells σ n (g a)) σ
  | .store n a x => kStore n (g a) (g x) σ
  | .bin op k x y => k1 (abin op k (g x) (g y)) σ
  | .un op x => k1 (aun op (g x)) σ
  | .convInt k x => kConv k (g x) σ
  | .convSame x => kSame (g x) σ
  | .resame x => kResame (g x) σ
  | .toBytes x => kToBytes (g x) σ
  | .ofBytes x => kOfBytes (g x) σ
  | .mkfunc f caps => some (.func f (caps.map g), σ)
  | .slice esz x lo hi mx => k1 (evSlice esz (g x) (lo.map g) (hi.map g) (mx.map g)) σ
  | .sliceStr x lo hi => k1 (evSliceStr (g x) (lo.map g) (hi.map g)) σ
  | .fieldAddr off x => k1 (fAddr off (g x)) σ
  | .field1 off x => kField1 off (g x) σ
  | .fieldN off n x => kFieldN off n (g x) σ
  | .indexAddr esz x i => k1 (iAddr esz (g x) (g i)) σ
  | .indexArrAddr n esz x i => k1 (aAddr n esz (g x) (g i)) σ
  | .extract x i => kExtract i (g x) σ
  | .lenStr x => kLenStr (g x) σ
  | .lenSl x => kLenSl (g x) σ
  | .append esz ebytes s x => evAppend esz ebytes (g s) (g x) σ
  | m => evOp g σ m
theorem evK_eq (g : Opd → AV) (σ : AHeap) (m : MOp) : evK g σ m = evOp g σ m := by
  cases m <;> simp only [evK, evOp, k1_eq, kA_eq, kBuild]
  case nilCheck x => cases g x <;> rfl
  case pick c a b => generalize g c = v; cases v <;> simp only [kPick]; rename_i t; cases t <;> rfl
  case box x => unfold kBox; cases (g x).cells? <;> rfl
  case buildSlice z e l ps => unfold kBuildSlice; cases fillParts ((List.replicate l z).flatten) (ps.map fun (o, s, x) => (o, s, g x)) <;> rfl
  case store n a x =>
    generalize g a = u
    unfold kStore
    generalize (g x).cells? = o
    cases u <;> simp only
    cases o with
    | none => rfl
    | some cs =>
      simp only
      by_cases h : cs.length = n ∧ cs.all (·.isCell) = true
      · rw [if_pos h]
        have : (Nat.beq cs.length n && cs.all (·.isCell)) = true := by simp [h.1, h.2]
        rw [this]
        simp only [cond_true]
        split
        · rename_i r hr; rw [hr]; rfl
        · rename_i hr; rw [hr]; rfl
      · rw [if_neg h]
        have : (Nat.beq cs.length n && cs.all (·.isCell)) = false := by
          rw [Bool.eq_false_iff]; intro hh; rw [Bool.and_eq_true] at hh; exact h ⟨Nat.eq_of_beq_eq_true hh.1, hh.2⟩
        rw [this]; rfl
  case convInt k x => cases g x <;> rfl
  case convSame x => cases g x <;> rfl
  case resame x =>
    generalize g x = u
    cases u <;> simp only [kResame]
    rename_i id off len cap esz
    by_cases h : 0 < len ∧ (hget σ id).isSome = true
    · rw [if_pos h]
      have : (Nat.blt 0 len && (hget σ id).isSome) = true := by simp [Nat.blt_eq, h.1, h.2]
      rw [this]; rfl
    · rw [if_neg h]
      have : (Nat.blt 0 len && (hget σ id).isSome) = false := by
        rw [Bool.eq_false_iff]; intro hh; rw [Bool.and_eq_true, Nat.blt_eq] at hh; exact h hh
      rw [this]; rfl
  case toBytes x => cases g x <;> rfl
  case ofBytes x => unfold kOfBytes; cases ofBytes σ (g x) <;> rfl
  case field1 o x => generalize g x = u; cases u <;> simp only [kField1, k1_eq]
  case fieldN o n x => generalize g x = u; cases u <;> simp only [kFieldN, kA_eq]
  case extract x i => generalize g x = u; cases u <;> simp only [kExtract, k1_eq]
  case lenStr x => cases g x <;> rfl
  case lenSl x => unfold kLenSl; cases lenSl (g x) <;> rfl
def putB (e : Env) (d : Option Nat) (v : AV) : Env :=
  match d with
  | some t => fun k => bif Nat.beq k t then v else e k
  | none => e
theorem putB_eq (e : Env) (d : Option Nat) (v : AV) : putB e d v = putD e d v := by
  cases d with
  | none => rfl
  | some t =>
    funext k
    show (bif Nat.beq k t then v else e k) = if k = t then v else e k
    by_cases h : k = t
    · subst h; simp
    · rw [if_neg h]
      have : Nat.beq k t = false := by rw [Bool.eq_false_iff]; intro hh; exact h (Nat.eq_of_beq_eq_true hh)
      rw [this]; rfl
def bEv (o : Option (AV × AHeap)) (K : AV → AHeap → Bool) : Bool :=
  match o with
  | some (v, σ') => K v σ'
  | none => false
def bOp (call : BCall) (m : MOp) (e : Env) (σ : AHeap) (K : AV → AHeap → Bool) : Bool :=
  match m with
  | .call f args => call f (args.map (·.ev e)) σ K
  | .callv f args => match f.ev e with
    | .func g caps => call g (args.map (·.ev e) ++ caps) σ K
    | _ => false
  | m => bEv (evK (Opd.ev e) σ m) K
def bG (call : BCall) (o : MOper) (e : Env) (σ : AHeap) (K : AV → AHeap → Bool) (skip : Unit → Bool) : Bool :=
  match o.guard with
  | none => bOp call o.op e σ K
  | some (t, want) => match guardVal (e t) with
    | some (some b) => if b = want then bOp call o.op e σ K else skip ()
    | some none => skip ()
    | none => false
def bOps (call : BCall) (K : Env → AHeap → Bool) : List MOper → Env → AHeap → Bool
  | [], e, σ => K e σ
  | o :: os, e, σ => bG call o e σ (fun v σ' => bOps call K os (putB e o.dst v) σ') (fun _ => bOps call K os (putB e o.dst .und) σ)
/-- A tree without a choice. -/
def bTree (call : BCall) (ops : List MOper) (K : Env → AHeap → Bool) : DTree → Env → AHeap → Bool
  | .leaf, e, σ => K e σ
  | .stop, _, _ => true
  | .quiet i t, e, σ =>
    match ops[i]? with
    | none => false
    | some o => bG call o e σ (fun v σ' => bTree call ops K t (putB e o.dst v) σ') (fun _ => bTree call ops K t (putB e o.dst .und) σ)
  | .loud _ _ _ _, _, _ => false
mutual
def AV.same : AV → AV → Bool
  | .bool a, .bool b => a == b
  | .int k a, .int l b => k == l && a == b
  | .str a, .str b => a == b
  | .nilptr, .nilptr => true
  | .nilslice, .nilslice => true
  | .nilfunc, .nilfunc => true
  | .unk, .unk => true
  | .nilif, .nilif => true
  | .someif, .someif => true
  | .nilmap, .nilmap => true
  | .map a, .map b => a == b
  | .brow a b c, .brow a' b' c' => a == a' && b == b' && c == c'
  | .bptr a b, .bptr a' b' => a == a' && b == b'
  | .ptr a b, .ptr c d => a == c && b == d
  | .iptr a, .iptr b => AV.sames a b
  | .slice a b c d e, .slice a' b' c' d' e' => a == a' && b == b' && c == c' && d == d' && e == e'
  | .imm a b c, .imm a' b' c' => AV.samess a a' && b == b' && c == c'
  | .func a b, .func a' b' => a == a' && AV.sames b b'
  | .agg a, .agg b => AV.sames a b
  | .tuple a, .tuple b => AV.sames a b
  | _, _ => false
def AV.sames : List AV → List AV → Bool
  | [], [] => true
  | a :: as, b :: bs => AV.same a b && AV.sames as bs
  | _, _ => false
def AV.samess : List (List AV) → List (List AV) → Bool
  | [], [] => true
  | a :: as, b :: bs => AV.sames a b && AV.samess as bs
  | _, _ => false
end
mutual
theorem AV.same_eq : ∀ {a b : AV}, AV.same a b = true → a = b
  | .bool a, b, h => by cases b <;> simp [AV.same] at h ⊢; exact h
  | .int k a, b, h => by cases b <;> simp [AV.same] at h ⊢; exact h
  | .str a, b, h => by cases b <;> simp [AV.same] at h ⊢; exact h
  | .nilptr, b, h => by cases b <;> simp [AV.same] at h ⊢
  | .nilslice, b, h => by cases b <;> simp [AV.same] at h ⊢
  | .nilfunc, b, h => by cases b <;> simp [AV.same] at h ⊢
  | .unk, b, h => by cases b <;> simp [AV.same] at h ⊢
  | .nilif, b, h => by cases b <;> simp [AV.same] at h ⊢
  | .someif, b, h => by cases b <;> simp [AV.same] at h ⊢
  | .nilmap, b, h => by cases b <;> simp [AV.same] at h ⊢
  | .map _, b, h => by cases b <;> simp [AV.same] at h ⊢; exact h
  | .brow _ _ _, b, h => by cases b <;> simp [AV.same] at h ⊢; simp_all
  | .bptr _ _, b, h => by cases b <;> simp [AV.same] at h ⊢; exact h
  | .ptr _ _, b, h => by cases b <;> simp [AV.same] at h ⊢; exact h
  | .iptr a, b, h => by cases b <;> simp [AV.same] at h ⊢; exact AV.sames_eq h
  | .slice _ _ _ _ _, b, h => by cases b <;> simp [AV.same] at h ⊢; simp_all
  | .imm a _ _, b, h => by cases b <;> simp [AV.same] at h ⊢; exact ⟨AV.samess_eq h.1.1, h.1.2, h.2⟩
  | .func _ a, b, h => by cases b <;> simp [AV.same] at h ⊢; exact ⟨h.1, AV.sames_eq h.2⟩
  | .agg a, b, h => by cases b <;> simp [AV.same] at h ⊢; exact AV.sames_eq h
  | .tuple a, b, h => by cases b <;> simp [AV.same] at h ⊢; exact AV.sames_eq h
theorem AV.sames_eq : ∀ {a b : List AV}, AV.sames a b = true → a = b
  | [], b, h => by cases b <;> simp [AV.sames] at h ⊢
  | a :: as, b, h => by
    cases b with
    | nil => simp [AV.sames] at h
    | cons b bs => simp [AV.sames] at h; rw [AV.same_eq h.1, AV.sames_eq h.2]
theorem AV.samess_eq : ∀ {a b : List (List AV)}, AV.samess a b = true → a = b
  | [], b, h => by cases b <;> simp [AV.samess] at h ⊢
  | a :: as, b, h => by
    cases b with
    | nil => simp [AV.samess] at h
    | cons b bs => simp [AV.samess] at h; rw [AV.sames_eq h.1, AV.samess_eq h.2]
end
def sameHeap : AHeap → AHeap → Bool
  | [], [] => true
  | none :: a, none :: b => sameHeap a b
  | some x :: a, some y :: b => AV.sames x y && sameHeap a b
  | _, _ => false
def quietTree : DTree → Bool
  | .leaf => true
  | .stop => true
  | .quiet _ t => quietTree t
  | .loud _ _ _ _ => false
def sameRead (σ : AHeap) (v : AV) (m : MOp) : Bool :=
  match evOp (Opd.ev fun _ => .unk) σ m with
  | some (x, _) => AV.same x v
  | none => false
/-- A tree with choices: what was read is read again. -/
def bTreeC (call : BCall) (ops : List MOper) (K : Env → AHeap → Bool) : DTree → List Pend → Env → AHeap → Bool
  | .leaf, _, e, σ => K e σ
  | .stop, _, _, _ => true
  | .quiet i t, ps, e, σ =>
    match ops[i]? with
    | none => false
    | some o => bG call o e σ (fun v σ' => bTreeC call ops K t (if isRead o.op then ⟨i, fixOp e o.op, v⟩ :: ps else ps) (putB e o.dst v) σ') (fun _ => bTreeC call ops K t ps (putB e o.dst .und) σ)
  | .loud i again t other, ps, e, σ =>
    (match ops[i]? with
    | none => false
    | some o => bG call o e σ (fun v σ' => (ps.all fun p => !again.contains p.i || sameRead σ' p.v p.op) && bTreeC call ops K t ps (putB e o.dst v) σ') (fun _ => bTreeC call ops K t ps (putB e o.dst .und) σ)) && bTreeC call ops K other ps e σ
def bLoop (body : (MExit → Env → AHeap → Bool) → Env → AHeap → Bool) (Q : MExit → Env → AHeap → Bool) : Nat → Env → AHeap → Bool
  | 0, _, _ => false
  | n + 1, e, σ => body (fun x e' σ' => match x with | .normal => bLoop body Q n e' σ' | x => Q x e' σ') e σ
def bC (call : BCall) (L : Nat) : MCode → (MExit → Env → AHeap → Bool) → Env → AHeap → Bool
  | .skip, Q, e, σ => Q .normal e σ
  | .region ops, Q, e, σ => bOps call (Q .normal) ops e σ
  | .draw ops t, Q, e, σ => if quietTree t then bTree call ops (Q .normal) t e σ else bTreeC call ops (Q .normal) t [] e σ
  | .seq a b, Q, e, σ => bC call L a (fun x e' σ' => match x with | .normal => bC call L b Q e' σ' | x => Q x e' σ') e σ
  | .cond c a b, Q, e, σ => match c.ev e with
    | .bool t => if t then bC call L a Q e σ else bC call L b Q e σ
    | _ => false
  | .block id a, Q, e, σ => bC call L a (fun x e' σ' => match x with | .exit i => if i = id then Q .normal e' σ' else Q (.exit i) e' σ' | x => Q x e' σ') e σ
  | .loop a, Q, e, σ => bLoop (bC call L a) Q L e σ
  | .exit id, Q, e, σ => Q (.exit id) e σ
  | .ret, Q, e, σ => Q .ret e σ
def bRet (rs : List MRes) (K : AV → AHeap → Bool) : MExit → Env → AHeap → Bool := fun x e σ =>
  match x with
  | .exit _ => false
  | _ => match resVals e σ rs with
    | some vs => K (retOf vs) σ
    | none => false
def bF (T : FuncId → Option MFunc) (L : Nat) : Nat → BCall
  | 0 => fun _ _ _ _ => false
  | n + 1 => fun f args σ K =>
    match T f with
    | some mf => Nat.ble args.length mf.n && bC (bF T L n) L mf.body (bRet mf.results K) (argEnv args) σ
    | none => false
section
variable {P : Program}
def CallOk (P : Program) (call : BCall) : Prop := ∀ f args σ K, call f args σ K = true → Tri P f args σ fun r σ' => K r σ' = true
variable {call : BCall}
theorem bOp_ok (hc : CallOk P call) {m : MOp} {e : Env} {σ : AHeap} {K : AV → AHeap → Bool} (h : bOp call m e σ K = true) : wpOp P m e σ fun v σ' => K v σ' = true := by
  unfold bOp at h
  unfold wpOp
  split at h
  · exact hc _ _ _ _ h
  · simp only
    split at h
    · rename_i hf; simp only [hf]; exact hc _ _ _ _ h
    · cases h
  · rw [evK_eq] at h
    unfold bEv at h
    split at h
    · simp_all
    · cases h
theorem bG_ok (hc : CallOk P call) {o : MOper} {e : Env} {σ : AHeap} {K : AV → AHeap → Bool} {s : Unit → Bool} (h : bG call o e σ K s = true) : wpG P o e σ (fun v σ' => K v σ' = true) (s () = true) := by
  unfold bG at h
  unfold wpG
  split at h
  · rename_i hg; simp only [hg]; exact bOp_ok hc h
  · rename_i hg; simp only [hg]
    split at h
    · rename_i hb; simp only [hb]
      split at h
      · rename_i hw; rw [if_pos hw]; exact bOp_ok hc h
      · rename_i hw; rw [if_neg hw]; exact h
    · rename_i hb; simp only [hb]; exact h
    · cases h
theorem wpG_mono {o : MOper} {e : Env} {σ : AHeap} {K K' : AV → AHeap → Prop} {s s' : Prop} (h : wpG P o e σ K s) (hk : ∀ v σ', K v σ' → K' v σ') (hs : s → s') : wpG P o e σ K' s' := by
  have key : wpOp P o.op e σ K → wpOp P o.op e σ K' := by
    intro h
    unfold wpOp at h ⊢
    split at h
    · exact h.mono hk
    · split at h
      · rename_i hf; exact h.mono hk
      · exact h.elim
    · split at h
      · rename_i hf; exact hk _ _ h
      · exact h.elim
  unfold wpG at h ⊢
  split at h
  · rename_i hg; exact key h
  · rename_i hg; 
    split at h
    · rename_i hb;
      split at h
      · rename_i hw; rw [if_pos hw]; exact key h
      · rename_i hw; rw [if_neg hw]; exact hs h
    · exact hs h
    · exact h.elim
theorem bOps_ok (hc : CallOk P call) {K : Env → AHeap → Bool} : ∀ {ops : List MOper} {e : Env} {σ : AHeap}, bOps call K ops e σ = true → wpOps P ops (fun e σ => K e σ = true) e σ
  | [], e, σ, h => h
  | o :: os, e, σ, h => by
    unfold bOps at h
    simp only [putB_eq] at h
    have := bG_ok hc h
    have := wpG_mono this (K' := fun v σ' => wpOps P os (fun e σ => K e σ = true) (putD e o.dst v) σ') (s' := wpOps P os (fun e σ => K e σ = true) (putD e o.dst .und) σ) (fun v σ' h => bOps_ok hc h) (fun h => bOps_ok hc h)
    exact this
theorem evOp_read {g : Opd → AV} {σ σ' : AHeap} {m : MOp} {v : AV} (hm : isRead m = true) (h : evOp g σ m = some (v, σ')) : σ' = σ := by
  cases m <;> simp [isRead] at hm <;> simp only [evOp] at h
  all_goals
    first
      | (simp only [Option.map_eq_some_iff] at h; obtain ⟨_, _, h⟩ := h; cases h; rfl)
      | skip
  all_goals (repeat' split at h) <;> first | (cases h; rfl) | (cases h) | skip
  all_goals
    simp only [Option.map_eq_some_iff] at h; obtain ⟨_, _, h⟩ := h; cases h; rfl
theorem isRead_fix {e : Env} {m : MOp} (h : isRead m = true) : isRead (fixOp e m) = true := by
  cases m <;> simp_all [isRead, fixOp]
theorem bTreeC_ok (hc : CallOk P call) {ops : List MOper} {K : Env → AHeap → Bool} : ∀ {t : DTree} {ps : List Pend} {e : Env} {σ : AHeap}, (∀ p ∈ ps, isRead p.op = true) → bTreeC call ops K t ps e σ = true → wpTree P ops (fun e σ => K e σ = true) t ps e σ
  | .leaf, _, e, σ, _, h => h
  | .stop, _, e, σ, _, h => trivial
  | .quiet i t, ps, e, σ, hp, h => by
    unfold bTreeC at h
    simp only [putB_eq] at h
    unfold wpTree
    split at h
    · cases h
    · rename_i o ho
      simp only [ho]
      refine wpG_mono (bG_ok hc h) (fun v σ' h => bTreeC_ok hc ?_ h) (fun h => bTreeC_ok hc hp h)
      intro p hp'
      split at hp'
      · rename_i hr
        rcases List.mem_cons.1 hp' with rfl | hp'
        · exact isRead_fix hr
        · exact hp p hp'
      · exact hp p hp'
  | .loud i again t other, ps, e, σ, hp, h => by
    unfold bTreeC at h
    simp only [putB_eq] at h
    unfold wpTree
    rw [Bool.and_eq_true] at h
    refine ⟨?_, bTreeC_ok hc hp h.2⟩
    have h := h.1
    split at h
    · cases h
    · rename_i o ho
      simp only [ho]
      refine wpG_mono (bG_ok hc h) (fun v σ' h => ?_) (fun h => bTreeC_ok hc hp h)
      rw [Bool.and_eq_true] at h
      refine ⟨fun p hp' ha => ?_, bTreeC_ok hc hp h.2⟩
      have := List.all_eq_true.1 h.1 p hp'
      have ha' : again.contains p.i = true := by simpa using ha
      rw [ha'] at this
      simp only [Bool.not_true, Bool.false_or, sameRead] at this
      split at this
      · rename_i x σ'' hx
        rw [hx, AV.same_eq this, evOp_read (hp p hp') hx]
      · cases this
theorem bTree_ok (hc : CallOk P call) {ops : List MOper} {K : Env → AHeap → Bool} : ∀ {t : DTree} {ps : List Pend} {e : Env} {σ : AHeap}, bTree call ops K t e σ = true → wpTree P ops (fun e σ => K e σ = true) t ps e σ
  | .leaf, _, e, σ, h => h
  | .stop, _, e, σ, h => trivial
  | .quiet i t, ps, e, σ, h => by
    unfold bTree at h
    simp only [putB_eq] at h
    unfold wpTree
    split at h
    · cases h
    · rename_i o ho
      simp only [ho]
      exact wpG_mono (bG_ok hc h) (fun v σ' h => bTree_ok hc h) (fun h => bTree_ok hc h)
  | .loud _ _ _ _, _, _, _, h => by simp [bTree] at h
theorem wpOp_mono {m : MOp} {e : Env} {σ : AHeap} {K K' : AV → AHeap → Prop} (h : wpOp P m e σ K) (hk : ∀ v σ', K v σ' → K' v σ') : wpOp P m e σ K' :=
  wpG_mono (o := ⟨none, m, none⟩) (s := True) (s' := True) h hk id
theorem wpOps_mono {K K' : Env → AHeap → Prop} (hk : ∀ e σ, K e σ → K' e σ) : ∀ {ops : List MOper} {e : Env} {σ : AHeap}, wpOps P ops K e σ → wpOps P ops K' e σ
  | [], e, σ, h => hk e σ h
  | o :: os, e, σ, h => wpG_mono (o := o) (s := wpOps P os K (putD e o.dst .und) σ) h (fun v σ' h => wpOps_mono hk h) (fun h => wpOps_mono hk h)
theorem wpTree_mono {ops : List MOper} {K K' : Env → AHeap → Prop} (hk : ∀ e σ, K e σ → K' e σ) : ∀ {t : DTree} {ps : List Pend} {e : Env} {σ : AHeap}, wpTree P ops K t ps e σ → wpTree P ops K' t ps e σ
  | .leaf, _, e, σ, h => hk e σ h
  | .stop, _, e, σ, h => trivial
  | .quiet i t, ps, e, σ, h => by
    unfold wpTree at h ⊢
    split at h
    · exact h.elim
    · rename_i o ho
      exact wpG_mono h (fun v σ' h => wpTree_mono hk h) (fun h => wpTree_mono hk h)
  | .loud i again t other, ps, e, σ, h => by
    unfold wpTree at h ⊢
    refine ⟨?_, wpTree_mono hk h.2⟩
    have h := h.1
    split at h
    · exact h.elim
    · rename_i o ho
      exact wpG_mono h (fun v σ' h => ⟨h.1, wpTree_mono hk h.2⟩) (fun h => wpTree_mono hk h)
theorem wpC_mono {n0 : Nat} : ∀ {m : MCode} {Q Q' : MExit → Env → AHeap → Prop} {e : Env} {σ : AHeap}, (∀ x e σ, Q x e σ → Q' x e σ) → wpC P n0 m Q e σ → wpC P n0 m Q' e σ
  | .skip, Q, Q', e, σ, hq, h => hq _ _ _ h
  | .region ops, Q, Q', e, σ, hq, h => wpOps_mono (fun e σ h => hq _ _ _ h) h
  | .draw ops t, Q, Q', e, σ, hq, h => wpTree_mono (fun e σ h => hq _ _ _ h) h
  | .seq a b, Q, Q', e, σ, hq, h => by
    refine wpC_mono (m := a) ?_ h
    intro x e σ h
    cases x with
    | normal => exact wpC_mono (m := b) hq h
    | exit i => exact hq _ _ _ h
    | ret => exact hq _ _ _ h
  | .cond c a b, Q, Q', e, σ, hq, h => by
    unfold wpC at h ⊢
    split at h
    · rename_i hc; 
      split at h
      · rename_i h2; rw [if_pos h2]; exact wpC_mono hq h
      · rename_i h2; rw [if_neg h2]; exact wpC_mono hq h
    · exact h.elim
  | .block id a, Q, Q', e, σ, hq, h => by
    refine wpC_mono (m := a) ?_ h
    intro x e σ h
    cases x with
    | normal => exact hq _ _ _ h
    | exit i =>
      simp only at h ⊢
      split at h
      · rename_i h2; rw [if_pos h2]; exact hq _ _ _ h
      · rename_i h2; rw [if_neg h2]; exact hq _ _ _ h
    | ret => exact hq _ _ _ h
  | .loop a, Q, Q', e, σ, hq, h => by
    obtain ⟨I, h1, h2⟩ := h
    refine ⟨I, h1, fun n e σ hI => wpC_mono (m := a) ?_ (h2 n e σ hI)⟩
    intro x e σ h
    cases x with
    | normal => exact h
    | exit i => exact hq _ _ _ h
    | ret => exact hq _ _ _ h
  | .exit id, Q, Q', e, σ, hq, h => hq _ _ _ h
  | .ret, Q, Q', e, σ, hq, h => hq _ _ _ h
theorem bC_ok (hc : CallOk P call) {L n0 : Nat} : ∀ {m : MCode} {Q : MExit → Env → AHeap → Bool} {e : Env} {σ : AHeap}, bC call L m Q e σ = true → wpC P n0 m (fun x e σ => Q x e σ = true) e σ
  | .skip, Q, e, σ, h => h
  | .region ops, Q, e, σ, h => bOps_ok hc h
  | .draw ops t, Q, e, σ, h => by
    unfold bC at h
    split at h
    · exact bTree_ok hc h
    · exact bTreeC_ok hc (by simp) h
  | .seq a b, Q, e, σ, h => by
    unfold bC at h
    refine wpC_mono (m := a) ?_ (bC_ok hc (m := a) h)
    intro x e σ h
    cases x with
    | normal => exact bC_ok hc (m := b) h
    | exit i => exact h
    | ret => exact h
  | .cond c a b, Q, e, σ, h => by
    unfold bC at h
    unfold wpC
    split at h
    · rename_i hcc; simp only [hcc]
      split at h
      · rename_i h2; rw [if_pos h2]; exact bC_ok hc h
      · rename_i h2; rw [if_neg h2]; exact bC_ok hc h
    · cases h
  | .block id a, Q, e, σ, h => by
    unfold bC at h
    refine wpC_mono (m := a) ?_ (bC_ok hc (m := a) h)
    intro x e σ h
    cases x with
    | normal => exact h
    | exit i =>
      simp only at h ⊢
      split at h
      · rename_i h2; rw [if_pos h2]; exact h
      · rename_i h2; rw [if_neg h2]; exact h
    | ret => exact h
  | .loop a, Q, e, σ, h => by
    unfold bC at h
    refine ⟨fun n e σ => bLoop (bC call L a) Q n e σ = true, ⟨L, e, σ, .refl _ _ _, h⟩, fun n e σ hI => ?_⟩
    cases n with
    | zero => cases hI
    | succ n =>
      unfold bLoop at hI
      refine wpC_mono (m := a) ?_ (bC_ok hc (m := a) hI)
      intro x e σ h
      cases x with
      | normal => exact ⟨n, e, σ, Nat.lt_succ_self n, .refl _ _ _, h⟩
      | exit i => exact h
      | ret => exact h
  | .exit id, Q, e, σ, h => h
  | .ret, Q, e, σ, h => h
theorem bF_ok {T : FuncId → Option MFunc} {L : Nat} (hT : ∀ f mf, T f = some mf → cFn P f = some mf) : ∀ n, CallOk P (bF T L n)
  | 0 => fun f args σ K h => by cases h
  | n + 1 => fun f args σ K h => by
    unfold bF at h
    split at h
    · rename_i mf hmf
      rw [Bool.and_eq_true] at h
      refine Tri.intro (hT f mf hmf) (Nat.le_of_ble_eq_true h.1) (wpC_mono ?_ (bC_ok (bF_ok hT n) h.2))
      intro x e σ h
      unfold bRet at h
      unfold RetQ
      split at h
      · cases h
      · split at h
        · rename_i hx _ vs hvs
          cases x with
          | normal => simp [hvs]; exact h
          | exit i => exact absurd rfl (hx i)
          | ret => simp [hvs]; exact h
        · cases h
    · cases h
/-- A run that a kernel did. -/
theorem Tri.run {f : FuncId} {args : List AV} {σ : AHeap} (L n : Nat) (K : AV → AHeap → Bool) (h : bF (cFn P) L n f args σ K = true) : Tri P f args σ fun r σ' => K r σ' = true :=
  bF_ok (T := cFn P) (fun _ _ h => h) n f args σ K h
end
end Go.Gz
