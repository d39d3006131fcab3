/- The machine of K29. -/
import Derived.Test.YtnooejmbhdgbpaaGreatDoorK29
set_option linter.unusedVariables false
set_option linter.unusedSimpArgs false
namespace Go.Gz
noncomputable def z1 (o : Option AV) (H : TH) (K : AV → TH → Bool) : Bool := Option.rec (motive := fun _ => Bool) false (fun v => K v H) o
noncomputable def zN (o : Option (List AV)) (H : TH) (K : AV → TH → Bool) : Bool := Option.rec (motive := fun _ => Bool) false (fun v => K (.agg v) H) o
noncomputable def zo (o : Option (AV × TH)) (K : AV → TH → Bool) : Bool := Option.rec (motive := fun _ => Bool) false (fun p => Prod.rec (motive := fun _ => Bool) (fun v H => K v H) p) o
theorem zo_eq (o : Option (AV × TH)) (K : AV → TH → Bool) : zo o K = xEv o K := by
  cases o with
  | none => rfl
  | some p => rfl
theorem z1_eq (o : Option AV) (H : TH) (K : AV → TH → Bool) : z1 o H K = xEv (t1 o H) K := by cases o <;> rfl
theorem zN_eq (o : Option (List AV)) (H : TH) (K : AV → TH → Bool) : zN o H K = xEv (tN o H) K := by cases o <;> rfl
noncomputable def zParts (d : Nat) (l : List (Nat × Nat × Opd)) : Cq :=
  List.rec (motive := fun _ => Cq) ⟨fun _ cs => some cs⟩ (fun p _ ih => Prod.rec (motive := fun _ => Cq) (fun off r => Prod.rec (motive := fun _ => Cq) (fun size x => ⟨fun T cs => Option.rec (motive := fun _ => Option (List AV)) none (fun c => Bool.rec (motive := fun _ => Option (List AV)) none (Option.rec (motive := fun _ => Option (List AV)) none (fun cs' => ih.r T cs') (zPut cs off c)) (Nat.beq (zLen c) size)) (zCells ((zOpd d x).r T))⟩) r) p) l
theorem zParts_eq (d : Nat) : ∀ (l : List (Nat × Nat × Opd)) (T : T4) (cs : List AV), (zParts d l).r T cs = fillParts cs (l.map fun (o, s, x) => (o, s, x.ev T.get))
  | [], T, cs => rfl
  | (off, size, x) :: l, T, cs => by
    show @Option.rec (List AV) (fun _ => Option (List AV)) none (fun c => @Bool.rec (fun _ => Option (List AV)) none (@Option.rec (List AV) (fun _ => Option (List AV)) none (fun cs' => (zParts d l).r T cs') (zPut cs off c)) (Nat.beq (zLen c) size)) (zCells ((zOpd d x).r T)) = _
    rw [zCells_eq, zOpd_eq]
    simp only [List.map_cons, fillParts]
    cases (x.ev T.get).cells? with
    | none => rfl
    | some c =>
      simp only [brec, zLen_eq, Nat.beq_eq, zPut_eq]
      split
      · cases Gz.put cs off c with
        | none => rfl
        | some cs' => exact zParts_eq d l T cs'
      · rfl
noncomputable def zBool (v : AV) (A B : Bool) : Bool :=
  AV.rec (motive_1 := fun _ => Bool) (motive_2 := fun _ => Unit) (motive_3 := fun _ => Unit) (fun b => Bool.rec (motive := fun _ => Bool) B A b) (fun _ _ => false) (fun _ => false) false (fun _ _ => false) (fun _ _ => false) false (fun _ _ _ _ _ => false) (fun _ _ _ _ => false) (fun _ _ _ => false) false (fun _ _ => false) (fun _ _ => false) false false false (fun _ _ _ => false) (fun _ _ => false) (fun _ => false) false () (fun _ _ _ _ => ()) () (fun _ _ _ _ => ()) v
noncomputable def zGuard (v : AV) (A B : Bool) : Bool :=
  AV.rec (motive_1 := fun _ => Bool) (motive_2 := fun _ => Unit) (motive_3 := fun _ => Unit) (fun b => Bool.rec (motive := fun _ => Bool) B A b) (fun _ _ => false) (fun _ => false) false (fun _ _ => false) (fun _ _ => false) false (fun _ _ _ _ _ => false) (fun _ _ _ _ => false) (fun _ _ _ => false) false (fun _ _ => false) (fun _ _ => B) false false false (fun _ _ _ => false) (fun _ _ => false) (fun _ => false) false () (fun _ _ _ _ => ()) () (fun _ _ _ _ => ()) v
noncomputable def zGuardN (v : AV) (A B : Bool) : Bool :=
  AV.rec (motive_1 := fun _ => Bool) (motive_2 := fun _ => Unit) (motive_3 := fun _ => Unit) (fun b => Bool.rec (motive := fun _ => Bool) A B b) (fun _ _ => false) (fun _ => false) false (fun _ _ => false) (fun _ _ => false) false (fun _ _ _ _ _ => false) (fun _ _ _ _ => false) (fun _ _ _ => false) false (fun _ _ => false) (fun _ _ => B) false false false (fun _ _ _ => false) (fun _ _ => false) (fun _ => false) false () (fun _ _ _ _ => ()) () (fun _ _ _ _ => ()) v
noncomputable def zNil (v : AV) (H : TH) (K : AV → TH → Bool) : Bool :=
  AV.rec (motive_1 := fun _ => Bool) (motive_2 := fun _ => Unit) (motive_3 := fun _ => Unit) (fun _ => false) (fun _ _ => false) (fun _ => false) false (fun a b => K (.ptr a b) H) (fun c _ => K (.iptr c) H) false (fun _ _ _ _ _ => false) (fun _ _ _ _ => false) (fun f c _ => K (.func f c) H) false (fun _ _ => false) (fun _ _ => false) false false false (fun _ _ _ => false) (fun a b => K (.bptr a b) H) (fun _ => false) false () (fun _ _ _ _ => ()) () (fun _ _ _ _ => ()) v
noncomputable def zLd1 (H : TH) (v : AV) : Option AV :=
  AV.rec (motive_1 := fun _ => Option AV) (motive_2 := fun _ => Unit) (motive_3 := fun _ => Unit) (fun _ => none) (fun _ _ => none) (fun _ => none) none (fun id off => Option.rec (motive := fun _ => Option AV) none (fun c => zNth c off) (H.get id)) (fun c _ => zNth c 0) none (fun _ _ _ _ _ => none) (fun _ _ _ _ => none) (fun _ _ _ => none) none (fun _ _ => none) (fun _ _ => none) none none none (fun _ _ _ => none) (fun _ _ => none) (fun _ => none) none () (fun _ _ _ _ => ()) () (fun _ _ _ _ => ()) v
theorem zLd1_eq (H : TH) (v : AV) : zLd1 H v = tLd1 H v := by
  cases v <;> try rfl
  case ptr id off =>
    show @Option.rec (List AV) (fun _ => Option AV) none (fun c => zNth c off) (H.get id) = _
    simp only [tLd1]
    cases H.get id with
    | none => rfl
    | some c => exact zNth_eq c off
  case iptr c => exact zNth_eq c 0
noncomputable def zLdN (H : TH) (n : Nat) (v : AV) : Option (List AV) :=
  AV.rec (motive_1 := fun _ => Option (List AV)) (motive_2 := fun _ => Unit) (motive_3 := fun _ => Unit) (fun _ => none) (fun _ _ => none) (fun _ => none) none (fun id off => Option.rec (motive := fun _ => Option (List AV)) none (fun c => zSub c off n) (H.get id)) (fun c _ => zSub c 0 n) none (fun _ _ _ _ _ => none) (fun _ _ _ _ => none) (fun _ _ _ => none) none (fun _ _ => none) (fun _ _ => none) none none none (fun _ _ _ => none) (fun _ _ => none) (fun _ => none) none () (fun _ _ _ _ => ()) () (fun _ _ _ _ => ()) v
theorem zLdN_eq (H : TH) (n : Nat) (v : AV) : zLdN H n v = tLdN H n v := by
  cases v <;> try rfl
  case ptr id off =>
    show @Option.rec (List AV) (fun _ => Option (List AV)) none (fun c => zSub c off n) (H.get id) = _
    simp only [tLdN]
    cases H.get id with
    | none => rfl
    | some c => exact zSub_eq c off n
  case iptr c => exact zSub_eq c 0 n
noncomputable def zSt (n id off : Nat) (cs : List AV) (H : TH) (K : AV → TH → Bool) : Bool :=
  Bool.rec (motive := fun _ => Bool) false (Bool.rec (motive := fun _ => Bool) false (Option.rec (motive := fun _ => Bool) false (fun c => Option.rec (motive := fun _ => Bool) false (fun r => K .unk (H.set id r)) (zPut c off cs)) (H.get id)) (zAll cs)) (Nat.beq (zLen cs) n)
noncomputable def zStore (n : Nat) (a v : AV) (H : TH) (K : AV → TH → Bool) : Bool :=
  AV.rec (motive_1 := fun _ => Bool) (motive_2 := fun _ => Unit) (motive_3 := fun _ => Unit) (fun _ => false) (fun _ _ => false) (fun _ => false) false (fun id off => Option.rec (motive := fun _ => Bool) false (fun cs => zSt n id off cs H K) (zCells v)) (fun _ _ => false) false (fun _ _ _ _ _ => false) (fun _ _ _ _ => false) (fun _ _ _ => false) false (fun _ _ => false) (fun _ _ => false) false false false (fun _ _ _ => false) (fun _ _ => false) (fun _ => false) false () (fun _ _ _ _ => ()) () (fun _ _ _ _ => ()) a
theorem zStore_eq (n : Nat) (a v : AV) (H : TH) (K : AV → TH → Bool) : zStore n a v H K = xEv (tStore n a v H) K := by
  cases a <;> try rfl
  case ptr id off =>
    show @Option.rec (List AV) (fun _ => Bool) false (fun cs => zSt n id off cs H K) (zCells v) = _
    rw [zCells_eq]
    simp only [tStore]
    cases v.cells? with
    | none => rfl
    | some cs =>
      simp only [zSt, brec, zLen_eq, zAll_eq]
      cases h1 : Nat.beq cs.length n
      · simp [xEv]
      · cases h2 : cs.all (·.isCell)
        · simp [xEv]
        · simp only [if_true, Bool.and_self, cond_true]
          cases H.get id with
          | none => rfl
          | some c =>
            simp only [zPut_eq]
            cases Gz.put c off cs <;> rfl
noncomputable def zFAddr (off : Nat) (v : AV) : Option AV :=
  AV.rec (motive_1 := fun _ => Option AV) (motive_2 := fun _ => Unit) (motive_3 := fun _ => Unit) (fun _ => none) (fun _ _ => none) (fun _ => none) none (fun id o => some (.ptr id (Nat.add o off))) (fun c _ => some (.iptr (c.drop off))) none (fun _ _ _ _ _ => none) (fun _ _ _ _ => none) (fun _ _ _ => none) none (fun _ _ => none) (fun _ _ => none) none none none (fun _ _ _ => none) (fun id _ => some (.ptr id off)) (fun _ => none) none () (fun _ _ _ _ => ()) () (fun _ _ _ _ => ()) v
theorem zFAddr_eq (off : Nat) (v : AV) : zFAddr off v = fAddr off v := by cases v <;> rfl
noncomputable def zRange (i : AV) (n : Nat) : Option Nat :=
  AV.rec (motive_1 := fun _ => Option Nat) (motive_2 := fun _ => Unit) (motive_3 := fun _ => Unit) (fun _ => none) (fun _ k => Int.rec (motive := fun _ => Option Nat) (fun a => Bool.rec (motive := fun _ => Option Nat) none (some a) (Nat.ble (Nat.succ a) n)) (fun _ => none) k) (fun _ => none) none (fun _ _ => none) (fun _ _ => none) none (fun _ _ _ _ _ => none) (fun _ _ _ _ => none) (fun _ _ _ => none) none (fun _ _ => none) (fun _ _ => none) none none none (fun _ _ _ => none) (fun _ _ => none) (fun _ => none) none () (fun _ _ _ _ => ()) () (fun _ _ _ _ => ()) i
theorem zRange_eq (i : AV) (n : Nat) : zRange i n = inRange i n := by
  cases i <;> try rfl
  case int k a =>
    cases a with
    | ofNat a =>
      show @Bool.rec (fun _ => Option Nat) none (some a) (Nat.ble (a + 1) n) = _
      rw [brec]
      simp only [inRange]
      by_cases h : a < n
      · rw [if_pos (by rw [Nat.ble_eq]; omega), if_pos ⟨Int.natCast_nonneg a, by simp only [Int.ofNat_eq_natCast]; omega⟩]; rfl
      · rw [if_neg (by rw [Nat.ble_eq]; omega), if_neg (by simp only [Int.ofNat_eq_natCast]; omega)]
    | negSucc a =>
      show none = _
      simp only [inRange]
      rw [if_neg]
      intro h
      have : Int.negSucc a < 0 := Int.negSucc_lt_zero a
      omega
noncomputable def zIAddr (esz : Nat) (x i : AV) : Option AV :=
  AV.rec (motive_1 := fun _ => AV → Option AV) (motive_2 := fun _ => Unit) (motive_3 := fun _ => Unit) (fun b i => iAddr esz (.bool b) i) (fun k n i => none) (fun _ _ => none) (fun _ => none) (fun _ _ _ => none) (fun _ _ _ => none) (fun _ => none) (fun id off len _ e i => Option.rec (motive := fun _ => Option AV) none (fun k => Bool.rec (motive := fun _ => Option AV) none (some (.ptr id (Nat.add off (Nat.mul k esz)))) (Nat.beq e esz)) (zRange i len)) (fun r f n _ i => iAddr esz (.imm r f n) i) (fun _ _ _ _ => none) (fun _ => none) (fun _ _ _ => none) (fun _ _ _ => none) (fun _ => none) (fun _ => none) (fun _ => none) (fun _ _ _ => (fun _ => none)) (fun _ _ => (fun _ => none)) (fun _ => (fun _ => none)) (fun _ => none) () (fun _ _ _ _ => ()) () (fun _ _ _ _ => ()) x i
theorem zIAddr_eq (esz : Nat) (x i : AV) : zIAddr esz x i = iAddr esz x i := by
  cases x <;> try rfl
  case slice id off len cap e =>
    show @Option.rec Nat (fun _ => Option AV) none (fun k => @Bool.rec (fun _ => Option AV) none (some (.ptr id (off + k * esz))) (Nat.beq e esz)) (zRange i len) = _
    rw [zRange_eq]
    simp only [iAddr]
    cases inRange i len with
    | none => rfl
    | some k => simp only [brec, Nat.beq_eq, Option.bind_some]
noncomputable def zField1 (off : Nat) (v : AV) : Option AV :=
  AV.rec (motive_1 := fun _ => Option AV) (motive_2 := fun _ => Unit) (motive_3 := fun _ => Unit) (fun _ => none) (fun _ _ => none) (fun _ => none) none (fun _ _ => none) (fun _ _ => none) none (fun _ _ _ _ _ => none) (fun _ _ _ _ => none) (fun _ _ _ => none) none (fun c _ => zNth c off) (fun _ _ => none) none none none (fun _ _ _ => none) (fun _ _ => none) (fun _ => none) none () (fun _ _ _ _ => ()) () (fun _ _ _ _ => ()) v
noncomputable def zFieldN (off n : Nat) (v : AV) : Option (List AV) :=
  AV.rec (motive_1 := fun _ => Option (List AV)) (motive_2 := fun _ => Unit) (motive_3 := fun _ => Unit) (fun _ => none) (fun _ _ => none) (fun _ => none) none (fun _ _ => none) (fun _ _ => none) none (fun _ _ _ _ _ => none) (fun _ _ _ _ => none) (fun _ _ _ => none) none (fun c _ => zSub c off n) (fun _ _ => none) none none none (fun _ _ _ => none) (fun _ _ => none) (fun _ => none) none () (fun _ _ _ _ => ()) () (fun _ _ _ _ => ()) v
noncomputable def zExtract (i : Nat) (v : AV) : Option AV :=
  AV.rec (motive_1 := fun _ => Option AV) (motive_2 := fun _ => Unit) (motive_3 := fun _ => Unit) (fun _ => none) (fun _ _ => none) (fun _ => none) none (fun _ _ => none) (fun _ _ => none) none (fun _ _ _ _ _ => none) (fun _ _ _ _ => none) (fun _ _ _ => none) none (fun _ _ => none) (fun c _ => zNth c i) none none none (fun _ _ _ => none) (fun _ _ => none) (fun _ => none) none () (fun _ _ _ _ => ()) () (fun _ _ _ _ => ()) v
noncomputable def zLenStr (v : AV) : Option AV :=
  AV.rec (motive_1 := fun _ => Option AV) (motive_2 := fun _ => Unit) (motive_3 := fun _ => Unit) (fun _ => none) (fun _ _ => none) (fun s => some (.int .i64 (Int.ofNat (zLen s)))) none (fun _ _ => none) (fun _ _ => none) none (fun _ _ _ _ _ => none) (fun _ _ _ _ => none) (fun _ _ _ => none) none (fun _ _ => none) (fun _ _ => none) none none none (fun _ _ _ => none) (fun _ _ => none) (fun _ => none) none () (fun _ _ _ _ => ()) () (fun _ _ _ _ => ()) v
noncomputable def zLenSl (v : AV) : Option AV :=
  AV.rec (motive_1 := fun _ => Option AV) (motive_2 := fun _ => Unit) (motive_3 := fun _ => Unit) (fun _ => none) (fun _ _ => none) (fun _ => none) none (fun _ _ => none) (fun _ _ => none) (some (.int .i64 (Int.ofNat 0))) (fun _ _ len _ _ => some (.int .i64 (Int.ofNat len))) (fun r _ _ _ => some (.int .i64 (Int.ofNat (zLen r)))) (fun _ _ _ => none) none (fun _ _ => none) (fun _ _ => none) none none none (fun _ len _ => some (.int .i64 (Int.ofNat len))) (fun _ _ => none) (fun _ => none) none () (fun _ _ _ _ => ()) () (fun _ _ _ _ => ()) v
noncomputable def zConv (k : IntKind) (v : AV) : Option AV :=
  AV.rec (motive_1 := fun _ => Option AV) (motive_2 := fun _ => Unit) (motive_3 := fun _ => Unit) (fun _ => none) (fun _ n => some (.int k (wrapF k n))) (fun _ => none) none (fun _ _ => none) (fun _ _ => none) none (fun _ _ _ _ _ => none) (fun _ _ _ _ => none) (fun _ _ _ => none) none (fun _ _ => none) (fun _ _ => none) none none none (fun _ _ _ => none) (fun _ _ => none) (fun _ => none) none () (fun _ _ _ _ => ()) () (fun _ _ _ _ => ()) v
noncomputable def zIdxStr (v i : AV) : Option AV :=
  AV.rec (motive_1 := fun _ => Option AV) (motive_2 := fun _ => Unit) (motive_3 := fun _ => Unit) (fun _ => none) (fun _ n => none) (fun s => (inRange i s.length).bind fun k => (s[k]?).map byteAV) none (fun _ _ => none) (fun _ _ => none) none (fun _ _ _ _ _ => none) (fun _ _ _ _ => none) (fun _ _ _ => none) none (fun _ _ => none) (fun _ _ => none) none none none (fun _ _ _ => none) (fun _ _ => none) (fun _ => none) none () (fun _ _ _ _ => ()) () (fun _ _ _ _ => ()) v
noncomputable def zCallv (call : FuncId → Cf) (v : AV) (args : List AV) (H : TH) (K : AV → TH → Bool) : Bool :=
  AV.rec (motive_1 := fun _ => Bool) (motive_2 := fun _ => Unit) (motive_3 := fun _ => Unit) (fun _ => false) (fun _ n => false) (fun s => false) false (fun _ _ => false) (fun _ _ => false) false (fun _ _ _ _ _ => false) (fun _ _ _ _ => false) (fun f c _ => (call f).r (args ++ c) H K) false (fun _ _ => false) (fun _ _ => false) false false false (fun _ _ _ => false) (fun _ _ => false) (fun _ => false) false () (fun _ _ _ _ => ()) () (fun _ _ _ _ => ()) v
noncomputable def oMap (d : Nat) (o : Option Opd) (T : T4) : Option AV := Option.rec (motive := fun _ => Option AV) none (fun x => some ((zOpd d x).r T)) o
theorem oMap_eq (d : Nat) (o : Option Opd) (T : T4) : oMap d o T = o.map (Opd.ev T.get) := by
  cases o with
  | none => rfl
  | some x => show some ((zOpd d x).r T) = _; rw [zOpd_eq]; rfl
/-- An operation made ready. -/
noncomputable def zOp (d : Nat) (call : FuncId → Cf) (m : MOp) : Co :=
  MOp.rec (motive := fun _ => Co)
    (fun x => ⟨fun T H K => K ((zOpd d x).r T) H⟩)
    (fun x => ⟨fun T H K => zNil ((zOpd d x).r T) H K⟩)
    (fun c a b => ⟨fun T H K => zBool ((zOpd d c).r T) (K ((zOpd d a).r T) H) (K ((zOpd d b).r T) H)⟩)
    (fun z => ⟨fun T H K => K (.ptr H.n 0) (H.push z)⟩)
    (fun x => ⟨fun T H K => Option.rec (motive := fun _ => Bool) false (fun cs => K (.ptr H.n 0) (H.push cs)) (zCells ((zOpd d x).r T))⟩)
    (fun z ps => ⟨fun T H K => zN ((zParts d ps).r T z) H K⟩)
    (fun z e l ps => ⟨fun T H K => Option.rec (motive := fun _ => Bool) false (fun cs => K (.slice H.n 0 l (some l) e) (H.push cs)) ((zParts d ps).r T ((List.replicate l z).flatten))⟩)
    (fun a => ⟨fun T H K => z1 (zLd1 H ((zOpd d a).r T)) H K⟩)
    (fun n a => ⟨fun T H K => zN (zLdN H n ((zOpd d a).r T)) H K⟩)
    (fun n a x => ⟨fun T H K => zStore n ((zOpd d a).r T) ((zOpd d x).r T) H K⟩)
    (fun op k x y => ⟨fun T H K => z1 ((cBin op k).r ((zOpd d x).r T) ((zOpd d y).r T)) H K⟩)
    (fun op x => ⟨fun T H K => z1 (aun op ((zOpd d x).r T)) H K⟩)
    (fun k x => ⟨fun T H K => z1 (zConv k ((zOpd d x).r T)) H K⟩)
    (fun x => ⟨fun T H K => zo (evT (Opd.ev T.get) H (.convSame x)) K⟩)
    (fun x => ⟨fun T H K => zo (tResame ((zOpd d x).r T) H) K⟩)
    (fun x => ⟨fun T H K => zo (tToBytes ((zOpd d x).r T) H) K⟩)
    (fun x => ⟨fun T H K => zo (tOfBytes ((zOpd d x).r T) H) K⟩)
    (fun f cs => ⟨fun T H K => K (.func f ((zArgs d cs).r T)) H⟩)
    (fun z e b l c => ⟨fun T H K => zo (tMake z e b ((zOpd d l).r T) ((zOpd d c).r T) H) K⟩)
    (fun x lo hi => ⟨fun T H K => z1 (evSliceStr ((zOpd d x).r T) (oMap d lo T) (oMap d hi T)) H K⟩)
    (fun e x lo hi mx => ⟨fun T H K => z1 (evSlice e ((zOpd d x).r T) (oMap d lo T) (oMap d hi T) (oMap d mx T)) H K⟩)
    (fun n e x lo hi mx => ⟨fun T H K => zo (tSliceArr n e ((zOpd d x).r T) (oMap d lo T) (oMap d hi T) (oMap d mx T) H) K⟩)
    (fun o x => ⟨fun T H K => z1 (zFAddr o ((zOpd d x).r T)) H K⟩)
    (fun o x => ⟨fun T H K => z1 (zField1 o ((zOpd d x).r T)) H K⟩)
    (fun o n x => ⟨fun T H K => zN (zFieldN o n ((zOpd d x).r T)) H K⟩)
    (fun e x i => ⟨fun T H K => z1 (zIAddr e ((zOpd d x).r T) ((zOpd d i).r T)) H K⟩)
    (fun n e x i => ⟨fun T H K => z1 (aAddr n e ((zOpd d x).r T) ((zOpd d i).r T)) H K⟩)
    (fun x i => ⟨fun T H K => z1 (zIdxStr ((zOpd d x).r T) ((zOpd d i).r T)) H K⟩)
    (fun n x i => ⟨fun T H K => zo (evT (Opd.ev T.get) H (.indexArr1 n x i)) K⟩)
    (fun n e x i => ⟨fun T H K => zo (evT (Opd.ev T.get) H (.indexArrN n e x i)) K⟩)
    (fun x i => ⟨fun T H K => z1 (zExtract i ((zOpd d x).r T)) H K⟩)
    (fun x => ⟨fun T H K => z1 (zLenStr ((zOpd d x).r T)) H K⟩)
    (fun x => ⟨fun T H K => z1 (zLenSl ((zOpd d x).r T)) H K⟩)
    (fun n => ⟨fun T H K => K (.int .i64 (n : Int)) H⟩)
    (fun e b s x => ⟨fun T H K => zo (tAppend e b ((zOpd d s).r T) ((zOpd d x).r T) H) K⟩)
    (fun e a s => ⟨fun T H K => zo (tCopy e ((zOpd d a).r T) ((zOpd d s).r T) H) K⟩)
    (fun mx xs => ⟨fun T H K => zo (evT (Opd.ev T.get) H (.minmax mx xs)) K⟩)
    (fun x => ⟨fun T H K => zo (evT (Opd.ev T.get) H (.capOf x)) K⟩)
    (fun f args => ⟨fun T H K => (call f).r ((zArgs d args).r T) H K⟩)
    (fun f args => ⟨fun T H K => zCallv call ((zOpd d f).r T) ((zArgs d args).r T) H K⟩)
    (fun k xs => ⟨fun T H K => zo (tExt k ((zArgs d xs).r T) H) K⟩) m
def xcallOf (call : FuncId → Cf) : XCall := fun f args H K => (call f).r args H K
theorem slow1 {g : Opd → AV} {H : TH} {m : MOp} {o : Option AV} (hs : evT g H m = tSlow g H m) (h : evOp g [] m = o.map (·, [])) (K : AV → TH → Bool) : z1 o H K = xEv (evT g H m) K := by
  rw [hs, z1_eq]
  unfold tSlow
  rw [evK_eq, h]
  cases o <;> rfl
theorem slowN {g : Opd → AV} {H : TH} {m : MOp} {o : Option (List AV)} (hs : evT g H m = tSlow g H m) (h : evOp g [] m = o.map (.agg ·, [])) (K : AV → TH → Bool) : zN o H K = xEv (evT g H m) K := by
  rw [hs, zN_eq]
  unfold tSlow
  rw [evK_eq, h]
  cases o <;> rfl
theorem zOp_eq (d : Nat) (call : FuncId → Cf) (m : MOp) (T : T4) (H : TH) (K : AV → TH → Bool) (T' : TEnv) (hT : T'.get = T.get) : (zOp d call m).r T H K = xOp (xcallOf call) m T' H K := by
  cases m
  case call f args =>
    show (call f).r ((zArgs d args).r T) H K = _
    rw [zArgs_eq, ← hT]; rfl
  case callv f args =>
    show zCallv call ((zOpd d f).r T) ((zArgs d args).r T) H K = _
    rw [zArgs_eq, zOpd_eq, ← hT]
    simp only [xOp]
    cases f.ev T'.get <;> rfl
  all_goals
    unfold xOp
    rw [hT]
    simp only
  case move x => show K ((zOpd d x).r T) H = _; rw [zOpd_eq]; rfl
  case nilCheck x =>
    show zNil ((zOpd d x).r T) H K = _
    rw [zOpd_eq]
    simp only [evT, tSlow, evK]
    cases x.ev T.get <;> rfl
  case pick c a b =>
    show zBool ((zOpd d c).r T) (K ((zOpd d a).r T) H) (K ((zOpd d b).r T) H) = _
    rw [zOpd_eq, zOpd_eq, zOpd_eq]
    simp only [evT, tSlow, evK]
    cases c.ev T.get <;> try rfl
    rename_i t; cases t <;> rfl
  case alloc z => rfl
  case box x =>
    show @Option.rec (List AV) (fun _ => Bool) false (fun cs => K (.ptr H.n 0) (H.push cs)) (zCells ((zOpd d x).r T)) = _
    rw [zOpd_eq, zCells_eq]
    simp only [evT, tP]
    cases (x.ev T.get).cells? <;> rfl
  case build z ps =>
    show zN ((zParts d ps).r T z) H K = _
    rw [zParts_eq]
    exact slowN rfl rfl K
  case buildSlice z e l ps =>
    show @Option.rec (List AV) (fun _ => Bool) false (fun cs => K (.slice H.n 0 l (some l) e) (H.push cs)) ((zParts d ps).r T ((List.replicate l z).flatten)) = _
    rw [zParts_eq]
    simp only [evT, tP]
    cases fillParts ((List.replicate l z).flatten) (ps.map fun (o, s, x) => (o, s, x.ev T.get)) <;> rfl
  case load1 a => show z1 (zLd1 H ((zOpd d a).r T)) H K = _; rw [zOpd_eq, zLd1_eq]; exact z1_eq _ _ _
  case loadN n a => show zN (zLdN H n ((zOpd d a).r T)) H K = _; rw [zOpd_eq, zLdN_eq]; exact zN_eq _ _ _
  case store n a x => show zStore n ((zOpd d a).r T) ((zOpd d x).r T) H K = _; rw [zOpd_eq, zOpd_eq, zStore_eq]; rfl
  case bin op k x y => show z1 ((cBin op k).r ((zOpd d x).r T) ((zOpd d y).r T)) H K = _; rw [zOpd_eq, zOpd_eq, cBin_eq]; exact slow1 rfl rfl K
  case un op x => show z1 (aun op ((zOpd d x).r T)) H K = _; rw [zOpd_eq]; exact slow1 rfl rfl K
  case convInt k x =>
    show z1 (zConv k ((zOpd d x).r T)) H K = _
    rw [zOpd_eq]
    refine slow1 rfl ?_ K
    simp only [evOp]
    cases x.ev T.get <;> try rfl
    rename_i k' n
    show _ = some (AV.int k (wrapF k n), ([] : AHeap))
    rw [wrapF_eq]
  case convSame x => exact zo_eq _ _
  case resame x => show zo (tResame ((zOpd d x).r T) H) K = _; rw [zOpd_eq]; exact zo_eq _ _
  case toBytes x => show zo (tToBytes ((zOpd d x).r T) H) K = _; rw [zOpd_eq]; exact zo_eq _ _
  case ofBytes x => show zo (tOfBytes ((zOpd d x).r T) H) K = _; rw [zOpd_eq]; exact zo_eq _ _
  case mkfunc f cs => show K (.func f ((zArgs d cs).r T)) H = _; rw [zArgs_eq]; rfl
  case makeSlice z e b l c => show zo (tMake z e b ((zOpd d l).r T) ((zOpd d c).r T) H) K = _; rw [zOpd_eq, zOpd_eq]; exact zo_eq _ _
  case sliceStr x lo hi => show z1 (evSliceStr ((zOpd d x).r T) (oMap d lo T) (oMap d hi T)) H K = _; rw [zOpd_eq, oMap_eq, oMap_eq]; exact slow1 rfl rfl K
  case slice e x lo hi mx => show z1 (evSlice e ((zOpd d x).r T) (oMap d lo T) (oMap d hi T) (oMap d mx T)) H K = _; rw [zOpd_eq, oMap_eq, oMap_eq, oMap_eq]; exact slow1 rfl rfl K
  case sliceArr n e x lo hi mx => show zo (tSliceArr n e ((zOpd d x).r T) (oMap d lo T) (oMap d hi T) (oMap d mx T) H) K = _; rw [zOpd_eq, oMap_eq, oMap_eq, oMap_eq]; exact zo_eq _ _
  case fieldAddr o x => show z1 (zFAddr o ((zOpd d x).r T)) H K = _; rw [zOpd_eq, zFAddr_eq]; exact slow1 rfl rfl K
  case field1 o x =>
    show z1 (zField1 o ((zOpd d x).r T)) H K = _
    rw [zOpd_eq]
    refine slow1 rfl ?_ K
    simp only [evOp]
    cases x.ev T.get <;> try rfl
    rename_i cs
    show _ = (zNth cs o).map (·, ([] : AHeap))
    rw [zNth_eq]
  case fieldN o n x =>
    show zN (zFieldN o n ((zOpd d x).r T)) H K = _
    rw [zOpd_eq]
    refine slowN rfl ?_ K
    simp only [evOp]
    cases x.ev T.get <;> try rfl
    rename_i cs
    show _ = (zSub cs o n).map (AV.agg ·, ([] : AHeap))
    rw [zSub_eq]
  case indexAddr e x i => show z1 (zIAddr e ((zOpd d x).r T) ((zOpd d i).r T)) H K = _; rw [zOpd_eq, zOpd_eq, zIAddr_eq]; exact slow1 rfl rfl K
  case indexArrAddr n e x i => show z1 (aAddr n e ((zOpd d x).r T) ((zOpd d i).r T)) H K = _; rw [zOpd_eq, zOpd_eq]; exact slow1 rfl rfl K
  case indexStr x i =>
    show z1 (zIdxStr ((zOpd d x).r T) ((zOpd d i).r T)) H K = _
    rw [zOpd_eq, zOpd_eq]
    refine slow1 rfl ?_ K
    simp only [evOp]
    cases x.ev T.get <;> try rfl
    rename_i s
    show ((inRange (i.ev T.get) s.length).bind fun k => (s[k]?).map fun b => (byteAV b, ([] : AHeap))) = ((inRange (i.ev T.get) s.length).bind fun k => (s[k]?).map byteAV).map (·, ([] : AHeap))
    cases inRange (i.ev T.get) s.length with
    | none => rfl
    | some k => simp only [Option.bind_some, Option.map_map, Function.comp_def]
  case indexArr1 n x i => exact zo_eq _ _
  case indexArrN n e x i => exact zo_eq _ _
  case extract x i =>
    show z1 (zExtract i ((zOpd d x).r T)) H K = _
    rw [zOpd_eq]
    refine slow1 rfl ?_ K
    simp only [evOp]
    cases x.ev T.get <;> try rfl
    rename_i cs
    show _ = (zNth cs i).map (·, ([] : AHeap))
    rw [zNth_eq]
  case lenStr x =>
    show z1 (zLenStr ((zOpd d x).r T)) H K = _
    rw [zOpd_eq]
    refine slow1 rfl ?_ K
    simp only [evOp]
    cases x.ev T.get <;> try rfl
    rename_i s
    show _ = some (AV.int .i64 (Int.ofNat (zLen s)), ([] : AHeap))
    rw [zLen_eq]; rfl
  case lenSl x =>
    show z1 (zLenSl ((zOpd d x).r T)) H K = _
    rw [zOpd_eq]
    refine slow1 rfl ?_ K
    simp only [evOp]
    cases x.ev T.get <;> try rfl
    rename_i r f n
    show _ = some (AV.int .i64 (Int.ofNat (zLen r)), ([] : AHeap))
    rw [zLen_eq]; rfl
  case lenArr n => rfl
  case append e b s x => show zo (tAppend e b ((zOpd d s).r T) ((zOpd d x).r T) H) K = _; rw [zOpd_eq, zOpd_eq]; exact zo_eq _ _
  case copy e a s => show zo (tCopy e ((zOpd d a).r T) ((zOpd d s).r T) H) K = _; rw [zOpd_eq, zOpd_eq]; exact zo_eq _ _
  case minmax mx xs => exact zo_eq _ _
  case capOf x => exact zo_eq _ _
  case ext k xs => show zo (tExt k ((zArgs d xs).r T) H) K = _; rw [zArgs_eq]; exact zo_eq _ _
/-! Code. -/
noncomputable def zDst (d : Nat) (dst : Option Nat) (c : Co) (ih : Cd) : Cd :=
  Option.rec (motive := fun _ => Cd) ⟨fun K T H => c.r T H (fun _ H' => ih.r K T H')⟩ (fun t => ⟨fun K T H => c.r T H (fun v H' => ih.r K ((pt d t).r T v) H')⟩) dst
noncomputable def zSkip (d : Nat) (dst : Option Nat) (ih : Cd) : Cd :=
  Option.rec (motive := fun _ => Cd) ih (fun t => ⟨fun K T H => ih.r K ((pt d t).r T .und) H⟩) dst
noncomputable def zGd (c s : Cd) (g : Ce) (want : Bool) : Cd :=
  Bool.rec (motive := fun _ => Cd) ⟨fun K T H => zGuardN (g.r T) (c.r K T H) (s.r K T H)⟩ ⟨fun K T H => zGuard (g.r T) (c.r K T H) (s.r K T H)⟩ want
noncomputable def zG (d : Nat) (call : FuncId → Cf) (o : MOper) (ih : Cd) : Cd :=
  Option.rec (motive := fun _ => Cd) (zDst d o.dst (zOp d call o.op) ih) (fun p => Prod.rec (motive := fun _ => Cd) (fun t want => zGd (zDst d o.dst (zOp d call o.op) ih) (zSkip d o.dst ih) (gt d t) want) p) o.guard
noncomputable def zOps (d : Nat) (call : FuncId → Cf) (ops : List MOper) : Cd :=
  List.rec (motive := fun _ => Cd) ⟨fun K T H => K T H⟩ (fun o _ ih => zG d call o ih) ops
theorem zDst_eq (d : Nat) (dst : Option Nat) (c : Co) (ih : Cd) (K : T4 → TH → Bool) (T : T4) (H : TH) : (zDst d dst c ih).r K T H = c.r T H (fun v H' => ih.r K (match dst with | some t => T.put t v | none => T) H') := by
  cases dst with
  | none => rfl
  | some t =>
    show c.r T H (fun v H' => ih.r K ((pt d t).r T v) H') = _
    simp only [pt_eq]
theorem zSkip_eq (d : Nat) (dst : Option Nat) (ih : Cd) (K : T4 → TH → Bool) (T : T4) (H : TH) : (zSkip d dst ih).r K T H = ih.r K (match dst with | some t => T.put t .und | none => T) H := by
  cases dst with
  | none => rfl
  | some t =>
    show ih.r K ((pt d t).r T .und) H = _
    simp only [pt_eq]
theorem putM (T : T4) (dst : Option Nat) (v : AV) : (match dst with | some t => T.put t v | none => T).get = putB T.get dst v := by
  cases dst with
  | none => rfl
  | some t => exact put_putB T t v
variable {bcall : BCall}
/-- The same, seen from slots. -/
def SameZ (call : FuncId → Cf) (bcall : BCall) : Prop := SameCall (xcallOf call) bcall
theorem zOpB (d : Nat) {call : FuncId → Cf} (hc : SameZ call bcall) (m : MOp) (T : T4) (H : TH) {K' : AV → TH → Bool} {K : AV → AHeap → Bool} (hk : ∀ v H, K' v H = K v H.toL) : (zOp d call m).r T H K' = bOp bcall m T.get H.toL K := by
  have hT : (Tr.leaf T.get).get = T.get := rfl
  rw [zOp_eq d call m T H K' (Tr.leaf T.get) hT, xOp_eq hc hk, hT]
theorem zG_eq (d : Nat) {call : FuncId → Cf} (hc : SameZ call bcall) (o : MOper) (ih : Cd) (K' : T4 → TH → Bool) (T : T4) (H : TH) {K2 : AV → AHeap → Bool} {s : Unit → Bool}
    (hk : ∀ v H', ih.r K' (match o.dst with | some t => T.put t v | none => T) H' = K2 v H'.toL) (hs : ih.r K' (match o.dst with | some t => T.put t .und | none => T) H = s ()) :
    (zG d call o ih).r K' T H = bG bcall o T.get H.toL K2 s := by
  have h1 : (zDst d o.dst (zOp d call o.op) ih).r K' T H = bOp bcall o.op T.get H.toL K2 := by
    rw [zDst_eq]; exact zOpB d hc o.op T H hk
  have h2 : (zSkip d o.dst ih).r K' T H = s () := by rw [zSkip_eq]; exact hs
  unfold bG
  cases hg : o.guard with
  | none =>
    have : zG d call o ih = zDst d o.dst (zOp d call o.op) ih := by unfold zG; rw [hg]
    rw [this, h1]
  | some p =>
    obtain ⟨t, want⟩ := p
    have : zG d call o ih = zGd (zDst d o.dst (zOp d call o.op) ih) (zSkip d o.dst ih) (gt d t) want := by unfold zG; rw [hg]
    rw [this]
    cases want with
    | true =>
      show zGuard ((gt d t).r T) ((zDst d o.dst (zOp d call o.op) ih).r K' T H) ((zSkip d o.dst ih).r K' T H) = _
      rw [h1, h2, gt_eq]
      simp only
      cases T.get t <;> try rfl
      rename_i b
      cases b <;> rfl
    | false =>
      show zGuardN ((gt d t).r T) ((zDst d o.dst (zOp d call o.op) ih).r K' T H) ((zSkip d o.dst ih).r K' T H) = _
      rw [h1, h2, gt_eq]
      simp only
      cases T.get t <;> try rfl
      rename_i b
      cases b <;> rfl
theorem zOps_eq (d : Nat) {call : FuncId → Cf} (hc : SameZ call bcall) {K' : T4 → TH → Bool} {K : Env → AHeap → Bool} (hk : ∀ T H, K' T H = K T.get H.toL) : ∀ (ops : List MOper) (T : T4) (H : TH), (zOps d call ops).r K' T H = bOps bcall K ops T.get H.toL
  | [], T, H => hk T H
  | o :: os, T, H => by
    show (zG d call o (zOps d call os)).r K' T H = _
    unfold bOps
    refine zG_eq d hc o (zOps d call os) K' T H (fun v H' => ?_) ?_
    · rw [zOps_eq d hc hk os, putM]
    · rw [zOps_eq d hc hk os, putM]
noncomputable def zTree (d : Nat) (call : FuncId → Cf) (ops : List MOper) (t : DTree) : Cd :=
  DTree.rec (motive := fun _ => Cd) ⟨fun K T H => K T H⟩ ⟨fun _ _ _ => true⟩
    (fun i _ ih => Option.rec (motive := fun _ => Cd) ⟨fun _ _ _ => false⟩ (fun o => zG d call o ih) ops[i]?)
    (fun _ _ _ _ _ _ => ⟨fun _ _ _ => false⟩) t
theorem zTree_eq (d : Nat) {call : FuncId → Cf} (hc : SameZ call bcall) {ops : List MOper} {K' : T4 → TH → Bool} {K : Env → AHeap → Bool} (hk : ∀ T H, K' T H = K T.get H.toL) : ∀ (t : DTree) (T : T4) (H : TH), (zTree d call ops t).r K' T H = bTree bcall ops K t T.get H.toL
  | .leaf, T, H => hk T H
  | .stop, T, H => rfl
  | .quiet i t, T, H => by
    show Cd.r (@Option.rec MOper (fun _ => Cd) ⟨fun _ _ _ => false⟩ (fun o => zG d call o (zTree d call ops t)) ops[i]?) K' T H = _
    unfold bTree
    cases ops[i]? with
    | none => rfl
    | some o =>
      refine zG_eq d hc o (zTree d call ops t) K' T H (fun v H' => ?_) ?_
      · rw [zTree_eq d hc hk t, putM]
      · rw [zTree_eq d hc hk t, putM]
  | .loud _ _ _ _, T, H => rfl
noncomputable def zPut4 (d : Nat) (T : T4) (dst : Option Nat) (v : AV) : T4 := Option.rec (motive := fun _ => T4) T (fun t => (pt d t).r T v) dst
theorem zPut4_eq (d : Nat) (T : T4) (dst : Option Nat) (v : AV) : (zPut4 d T dst v).get = putB T.get dst v := by
  cases dst with
  | none => rfl
  | some t => show ((pt d t).r T v).get = _; rw [pt_eq]; exact put_putB T t v
noncomputable def zGd2 (d : Nat) (g : Option (Nat × Bool)) (T : T4) (A B : Bool) : Bool :=
  Option.rec (motive := fun _ => Bool) A (fun p => Prod.rec (motive := fun _ => Bool) (fun t want => Bool.rec (motive := fun _ => Bool) (zGuardN ((gt d t).r T) A B) (zGuard ((gt d t).r T) A B) want) p) g
theorem zGd2_eq (d : Nat) {call : FuncId → Cf} (hc : SameZ call bcall) (o : MOper) (T : T4) (H : TH) {K' : AV → TH → Bool} {K : AV → AHeap → Bool} {B : Bool} {s : Unit → Bool} (hk : ∀ v H, K' v H = K v H.toL) (hs : B = s ()) :
    zGd2 d o.guard T ((zOp d call o.op).r T H K') B = bG bcall o T.get H.toL K s := by
  have h1 : (zOp d call o.op).r T H K' = bOp bcall o.op T.get H.toL K := zOpB d hc o.op T H hk
  unfold bG
  rw [h1, hs]
  cases hg : o.guard with
  | none => rfl
  | some p =>
    obtain ⟨t, want⟩ := p
    cases want with
    | true =>
      show zGuard ((gt d t).r T) _ _ = _
      rw [gt_eq]
      simp only
      cases T.get t <;> try rfl
      rename_i b
      cases b <;> rfl
    | false =>
      show zGuardN ((gt d t).r T) _ _ = _
      rw [gt_eq]
      simp only
      cases T.get t <;> try rfl
      rename_i b
      cases b <;> rfl
noncomputable def zPs (o : MOper) (i : Nat) (T : T4) (v : AV) (ps : List Pend) : List Pend := Bool.rec (motive := fun _ => List Pend) ps (⟨i, fixOp T.get o.op, v⟩ :: ps) (isRead o.op)
noncomputable def zRead (H : TH) (v : AV) (m : MOp) : Bool := Option.rec (motive := fun _ => Bool) false (fun p => AV.same p.1 v) (evT (Opd.ev fun _ => .unk) H m)
theorem zRead_eq (H : TH) (v : AV) (m : MOp) : zRead H v m = sameRead H.toL v m := by
  unfold zRead sameRead
  rw [← evT_eq]
  cases evT (Opd.ev fun _ => .unk) H m <;> rfl
noncomputable def zStill (ps : List Pend) (again : List Nat) (H : TH) (B : Bool) : Bool := Bool.rec (motive := fun _ => Bool) false B (ps.all fun p => !again.contains p.i || zRead H p.v p.op)
/-- A tree with choices. -/
noncomputable def zTreeC (d : Nat) (call : FuncId → Cf) (ops : List MOper) (t : DTree) : Ct :=
  DTree.rec (motive := fun _ => Ct) ⟨fun K _ T H => K T H⟩ ⟨fun _ _ _ _ => true⟩
    (fun i _ ih => Option.rec (motive := fun _ => Ct) ⟨fun _ _ _ _ => false⟩ (fun o => ⟨fun K ps T H => zGd2 d o.guard T ((zOp d call o.op).r T H (fun v H' => ih.r K (zPs o i T v ps) (zPut4 d T o.dst v) H')) (ih.r K ps (zPut4 d T o.dst .und) H)⟩) ops[i]?)
    (fun i again _ _ ih ih2 => Option.rec (motive := fun _ => Ct) ⟨fun _ _ _ _ => false⟩ (fun o => ⟨fun K ps T H => Bool.rec (motive := fun _ => Bool) false (ih2.r K ps T H) (zGd2 d o.guard T ((zOp d call o.op).r T H (fun v H' => zStill ps again H' (ih.r K ps (zPut4 d T o.dst v) H'))) (ih.r K ps (zPut4 d T o.dst .und) H))⟩) ops[i]?) t
theorem zTreeC_eq (d : Nat) {call : FuncId → Cf} (hc : SameZ call bcall) {ops : List MOper} {K' : T4 → TH → Bool} {K : Env → AHeap → Bool} (hk : ∀ T H, K' T H = K T.get H.toL) : ∀ (t : DTree) (ps : List Pend) (T : T4) (H : TH), (zTreeC d call ops t).r K' ps T H = bTreeC bcall ops K t ps T.get H.toL
  | .leaf, ps, T, H => hk T H
  | .stop, ps, T, H => rfl
  | .quiet i t, ps, T, H => by
    show Ct.r (@Option.rec MOper (fun _ => Ct) ⟨fun _ _ _ _ => false⟩ (fun o => ⟨fun K ps T H => zGd2 d o.guard T ((zOp d call o.op).r T H (fun v H' => (zTreeC d call ops t).r K (zPs o i T v ps) (zPut4 d T o.dst v) H')) ((zTreeC d call ops t).r K ps (zPut4 d T o.dst .und) H)⟩) ops[i]?) K' ps T H = _
    unfold bTreeC
    cases ops[i]? with
    | none => rfl
    | some o =>
      show zGd2 d o.guard T ((zOp d call o.op).r T H (fun v H' => (zTreeC d call ops t).r K' (zPs o i T v ps) (zPut4 d T o.dst v) H')) ((zTreeC d call ops t).r K' ps (zPut4 d T o.dst .und) H) = _
      refine zGd2_eq d hc o T H (fun v H' => ?_) ?_
      · rw [zTreeC_eq d hc hk t, zPut4_eq]
        unfold zPs
        rw [brec]
      · rw [zTreeC_eq d hc hk t, zPut4_eq]
  | .loud i again t other, ps, T, H => by
    show Ct.r (@Option.rec MOper (fun _ => Ct) ⟨fun _ _ _ _ => false⟩ (fun o => ⟨fun K ps T H => Bool.rec (motive := fun _ => Bool) false ((zTreeC d call ops other).r K ps T H) (zGd2 d o.guard T ((zOp d call o.op).r T H (fun v H' => zStill ps again H' ((zTreeC d call ops t).r K ps (zPut4 d T o.dst v) H'))) ((zTreeC d call ops t).r K ps (zPut4 d T o.dst .und) H))⟩) ops[i]?) K' ps T H = _
    unfold bTreeC
    cases ops[i]? with
    | none => rfl
    | some o =>
      show @Bool.rec (fun _ => Bool) false ((zTreeC d call ops other).r K' ps T H) (zGd2 d o.guard T ((zOp d call o.op).r T H (fun v H' => zStill ps again H' ((zTreeC d call ops t).r K' ps (zPut4 d T o.dst v) H'))) ((zTreeC d call ops t).r K' ps (zPut4 d T o.dst .und) H)) = _
      rw [brec, zTreeC_eq d hc hk other]
      have hg : zGd2 d o.guard T ((zOp d call o.op).r T H (fun v H' => zStill ps again H' ((zTreeC d call ops t).r K' ps (zPut4 d T o.dst v) H'))) ((zTreeC d call ops t).r K' ps (zPut4 d T o.dst .und) H) = bG bcall o T.get H.toL (fun v σ' => (ps.all fun p => !again.contains p.i || sameRead σ' p.v p.op) && bTreeC bcall ops K t ps (putB T.get o.dst v) σ') (fun _ => bTreeC bcall ops K t ps (putB T.get o.dst .und) H.toL) := by
        refine zGd2_eq d hc o T H (fun v H' => ?_) ?_
        · unfold zStill
          simp only [zRead_eq]
          rw [brec, zTreeC_eq d hc hk t, zPut4_eq]
          cases (ps.all fun p => !again.contains p.i || sameRead H'.toL p.v p.op) <;> simp
        · rw [zTreeC_eq d hc hk t, zPut4_eq]
      rw [hg]
      simp only
      cases (bG bcall o T.get H.toL (fun v σ' => (ps.all fun p => !again.contains p.i || sameRead σ' p.v p.op) && bTreeC bcall ops K t ps (putB T.get o.dst v) σ') (fun _ => bTreeC bcall ops K t ps (putB T.get o.dst .und) H.toL)) <;> simp
noncomputable def zTreeD (d : Nat) (call : FuncId → Cf) (ops : List MOper) (t : DTree) : Cd := ⟨fun K T H => (zTreeC d call ops t).r K [] T H⟩
noncomputable def seqQ (b : Cc) (Q : ZQ) : ZQ := fun x T H => MExit.rec (motive := fun _ => Bool) (b.r Q T H) (fun i => Q (.exit i) T H) (Q .ret T H) x
noncomputable def blkQ (id : Nat) (Q : ZQ) : ZQ := fun x T H => MExit.rec (motive := fun _ => Bool) (Q .normal T H) (fun i => Bool.rec (motive := fun _ => Bool) (Q (.exit i) T H) (Q .normal T H) (Nat.beq i id)) (Q .ret T H) x
noncomputable def lopQ (f : T4 → TH → Bool) (Q : ZQ) : ZQ := fun x T H => MExit.rec (motive := fun _ => Bool) (f T H) (fun i => Q (.exit i) T H) (Q .ret T H) x
noncomputable def zLoop (a : Cc) (Q : ZQ) (n : Nat) : T4 → TH → Bool := Nat.rec (motive := fun _ => T4 → TH → Bool) (fun _ _ => false) (fun _ ih T H => a.r (lopQ ih Q) T H) n
noncomputable def zC (d : Nat) (call : FuncId → Cf) (L : Nat) (m : MCode) : Cc :=
  MCode.rec (motive := fun _ => Cc)
    ⟨fun Q T H => Q .normal T H⟩
    (fun ops => ⟨fun Q T H => (zOps d call ops).r (Q .normal) T H⟩)
    (fun ops t => ⟨fun Q T H => (Bool.rec (motive := fun _ => Cd) (zTreeD d call ops t) (zTree d call ops t) (quietTree t)).r (Q .normal) T H⟩)
    (fun _ _ ia ib => ⟨fun Q T H => ia.r (seqQ ib Q) T H⟩)
    (fun c _ _ ia ib => ⟨fun Q T H => zBool ((zOpd d c).r T) (ia.r Q T H) (ib.r Q T H)⟩)
    (fun id _ ia => ⟨fun Q T H => ia.r (blkQ id Q) T H⟩)
    (fun _ ia => ⟨fun Q T H => zLoop ia Q L T H⟩)
    (fun id => ⟨fun Q T H => Q (.exit id) T H⟩)
    ⟨fun Q T H => Q .ret T H⟩ m
theorem zLoop_eq {a : Cc} {b : (MExit → Env → AHeap → Bool) → Env → AHeap → Bool} (hb : ∀ Q' Q, (∀ x T H, Q' x T H = Q x T.get H.toL) → ∀ T H, a.r Q' T H = b Q T.get H.toL)
    {Q' : ZQ} {Q : MExit → Env → AHeap → Bool} (hq : ∀ x T H, Q' x T H = Q x T.get H.toL) : ∀ (n : Nat) (T : T4) (H : TH), zLoop a Q' n T H = bLoop b Q n T.get H.toL
  | 0, T, H => rfl
  | n + 1, T, H => by
    show a.r (lopQ (zLoop a Q' n) Q') T H = _
    unfold bLoop
    refine hb _ _ (fun x T' H' => ?_) T H
    cases x with
    | normal => exact zLoop_eq hb hq n T' H'
    | exit i => exact hq _ _ _
    | ret => exact hq _ _ _
theorem zC_eq (d : Nat) {call : FuncId → Cf} (hc : SameZ call bcall) {L : Nat} : ∀ (m : MCode) {Q' : ZQ} {Q : MExit → Env → AHeap → Bool}, (∀ x T H, Q' x T H = Q x T.get H.toL) → ∀ (T : T4) (H : TH), (zC d call L m).r Q' T H = bC bcall L m Q T.get H.toL
  | .skip, Q', Q, hq, T, H => hq _ _ _
  | .region ops, Q', Q, hq, T, H => zOps_eq d hc (fun T H => hq _ T H) ops T H
  | .draw ops t, Q', Q, hq, T, H => by
    show Cd.r (@Bool.rec (fun _ => Cd) (zTreeD d call ops t) (zTree d call ops t) (quietTree t)) (Q' .normal) T H = _
    unfold bC
    cases quietTree t with
    | true => simp only [if_true]; exact zTree_eq d hc (fun T H => hq _ T H) t T H
    | false => simp only [Bool.false_eq_true, if_false]; exact zTreeC_eq d hc (fun T H => hq _ T H) t [] T H
  | .seq a b, Q', Q, hq, T, H => by
    show (zC d call L a).r (seqQ (zC d call L b) Q') T H = _
    unfold bC
    refine zC_eq d hc a (fun x T' H' => ?_) T H
    cases x with
    | normal => exact zC_eq d hc b hq T' H'
    | exit i => exact hq _ _ _
    | ret => exact hq _ _ _
  | .cond c a b, Q', Q, hq, T, H => by
    show zBool ((zOpd d c).r T) ((zC d call L a).r Q' T H) ((zC d call L b).r Q' T H) = _
    unfold bC
    rw [zOpd_eq, zC_eq d hc a hq, zC_eq d hc b hq]
    cases c.ev T.get <;> try rfl
    rename_i t
    cases t <;> rfl
  | .block id a, Q', Q, hq, T, H => by
    show (zC d call L a).r (blkQ id Q') T H = _
    unfold bC
    refine zC_eq d hc a (fun x T' H' => ?_) T H
    cases x with
    | normal => exact hq _ _ _
    | exit i =>
      simp only [blkQ, brec, Nat.beq_eq]
      split <;> exact hq _ _ _
    | ret => exact hq _ _ _
  | .loop a, Q', Q, hq, T, H => by
    show zLoop (zC d call L a) Q' L T H = _
    unfold bC
    exact zLoop_eq (fun Q' Q hq T H => zC_eq d hc a hq T H) hq L T H
  | .exit id, Q', Q, hq, T, H => hq _ _ _
  | .ret, Q', Q, hq, T, H => hq _ _ _
noncomputable def zOCons (o : Option AV) (r : Option (List AV)) : Option (List AV) := Option.rec (motive := fun _ => Option (List AV)) none (fun v => Option.rec (motive := fun _ => Option (List AV)) none (fun vs => some (v :: vs)) r) o
noncomputable def zRes (d : Nat) (rs : List MRes) : Cr :=
  List.rec (motive := fun _ => Cr) ⟨fun _ _ => some []⟩ (fun r _ ih => MRes.rec (motive := fun _ => Cr) (fun t => ⟨fun T H => zOCons (some ((gt d t).r T)) (ih.r T H)⟩) (fun a => ⟨fun T H => zOCons (zLd1 H ((gt d a).r T)) (ih.r T H)⟩) (fun a n => ⟨fun T H => zOCons (Option.rec (motive := fun _ => Option AV) none (fun c => some (.agg c)) (zLdN H n ((gt d a).r T))) (ih.r T H)⟩) r) rs
theorem zRes_eq (d : Nat) : ∀ (rs : List MRes) (T : T4) (H : TH), (zRes d rs).r T H = resVals T.get H.toL rs
  | [], T, H => rfl
  | .t t :: rs, T, H => by
    show zOCons (some ((gt d t).r T)) ((zRes d rs).r T H) = _
    rw [gt_eq, zRes_eq d rs]
    conv => rhs; unfold resVals
    simp only [resVal]
    cases resVals T.get H.toL rs <;> rfl
  | .c1 a :: rs, T, H => by
    show zOCons (zLd1 H ((gt d a).r T)) ((zRes d rs).r T H) = _
    rw [gt_eq, zRes_eq d rs, zLd1_eq, tLd1_eq]
    conv => rhs; unfold resVals
    simp only [resVal]
    cases ldCell H.toL (T.get a) <;> try rfl
    cases resVals T.get H.toL rs <;> rfl
  | .cN a n :: rs, T, H => by
    show zOCons (@Option.rec (List AV) (fun _ => Option AV) none (fun c => some (.agg c)) (zLdN H n ((gt d a).r T))) ((zRes d rs).r T H) = _
    rw [gt_eq, zRes_eq d rs, zLdN_eq, tLdN_eq]
    conv => rhs; unfold resVals
    simp only [resVal]
    cases ldCells H.toL n (T.get a) <;> try rfl
    cases resVals T.get H.toL rs <;> rfl
noncomputable def zRetOf (vs : List AV) : AV := List.rec (motive := fun _ => AV) (.tuple []) (fun v r _ => List.rec (motive := fun _ => AV) v (fun _ _ _ => .tuple (v :: r)) r) vs
theorem zRetOf_eq : ∀ vs, zRetOf vs = retOf vs
  | [] => rfl
  | [v] => rfl
  | _ :: _ :: _ => rfl
noncomputable def zFin (rs : Cr) (K : AV → TH → Bool) (T : T4) (H : TH) : Bool := Option.rec (motive := fun _ => Bool) false (fun vs => K (zRetOf vs) H) (rs.r T H)
noncomputable def zRet (rs : Cr) (K : AV → TH → Bool) : ZQ := fun x T H => MExit.rec (motive := fun _ => Bool) (zFin rs K T H) (fun _ => false) (zFin rs K T H) x
theorem zRet_eq (d : Nat) {rs : List MRes} {K' : AV → TH → Bool} {K : AV → AHeap → Bool} (hk : ∀ v H, K' v H = K v H.toL) (x : MExit) (T : T4) (H : TH) : zRet (zRes d rs) K' x T H = bRet rs K x T.get H.toL := by
  have h : zFin (zRes d rs) K' T H = (match resVals T.get H.toL rs with | some vs => K (retOf vs) H.toL | none => false) := by
    unfold zFin
    rw [zRes_eq]
    cases resVals T.get H.toL rs with
    | none => rfl
    | some vs => show K' (zRetOf vs) H = _; rw [zRetOf_eq]; exact hk _ _
  cases x with
  | normal => exact h
  | exit i => rfl
  | ret => exact h
noncomputable def zArg (args : List AV) : Nat → AV := List.rec (motive := fun _ => Nat → AV) (fun _ => .unk) (fun x _ ih k => Nat.rec (motive := fun _ => AV) x (fun k _ => ih k) k) args
theorem zArg_eq : ∀ (args : List AV) (k : Nat), zArg args k = argEnv args k
  | [], k => rfl
  | x :: r, 0 => rfl
  | x :: r, k + 1 => zArg_eq r k
noncomputable def zMk2 (code : Cc) (res : Cr) (n d : Nat) : Cf := ⟨fun args H K => Bool.rec (motive := fun _ => Bool) false (code.r (zRet res K) (T4.full d (zArg args)) H) (Nat.ble (zLen args) n)⟩
noncomputable def zDepth (n : Nat) : Nat := Nat.succ (Nat.div (Nat.log2 n) 2)
noncomputable def zMk (call : FuncId → Cf) (L : Nat) (mf : MFunc) : Cf := zMk2 (zC (zDepth mf.n) call L mf.body) (zRes (zDepth mf.n) mf.results) mf.n (zDepth mf.n)
noncomputable def zF (F : FuncId → Option MFunc) (L : Nat) (n : Nat) : FuncId → Cf :=
  Nat.rec (motive := fun _ => FuncId → Cf) (fun _ => ⟨fun _ _ _ => false⟩) (fun _ ih f => Option.rec (motive := fun _ => Cf) ⟨fun _ _ _ => false⟩ (fun mf => zMk ih L mf) (F f)) n
theorem zF_eq (F : FuncId → Option MFunc) (L : Nat) : ∀ n, SameZ (zF F L n) (bF F L n)
  | 0 => fun _ _ _ _ _ _ => rfl
  | n + 1 => fun f args H K' K hk => by
    show Cf.r (@Option.rec MFunc (fun _ => Cf) ⟨fun _ _ _ => false⟩ (fun mf => zMk (zF F L n) L mf) (F f)) args H K' = _
    unfold bF
    cases F f with
    | none => rfl
    | some mf =>
      show @Bool.rec (fun _ => Bool) false ((zC (zDepth mf.n) (zF F L n) L mf.body).r (zRet (zRes (zDepth mf.n) mf.results) K') (T4.full (zDepth mf.n) (zArg args)) H) (Nat.ble (zLen args) mf.n) = _
      rw [zC_eq (zDepth mf.n) (zF_eq F L n) mf.body (fun x T H => zRet_eq (zDepth mf.n) hk x T H), zLen_eq]
      rw [show (T4.full (zDepth mf.n) (zArg args)).get = argEnv args from funext fun k => (T4.get_full _ _ k).trans (zArg_eq args k)]
      simp only
      cases Nat.ble args.length mf.n <;> simp
/-- A closed call, run by the kernel. -/
theorem Tri.runZ {P : Program} {f : FuncId} {args : List AV} (L n : Nat) (K : AV → Bool) (h : @Bool.rec (fun _ => Bool) false true ((zF (cFn P) L n f).r args TH.new (fun v _ => K v)) = true) : Tri P f args [] fun r _ => K r = true := by
  have h : (zF (cFn P) L n f).r args TH.new (fun v _ => K v) = true := by
    revert h
    cases (zF (cFn P) L n f).r args TH.new (fun v _ => K v) <;> intro h
    · exact h
    · rfl
  refine Tri.run L n (fun v _ => K v) ?_
  have := zF_eq (cFn P) L n f args TH.new (fun v _ => K v) (fun v _ => K v) (fun v H => rfl)
  rw [TH.new_eq] at this
  rw [← this]
  exact h
end Go.Gz
