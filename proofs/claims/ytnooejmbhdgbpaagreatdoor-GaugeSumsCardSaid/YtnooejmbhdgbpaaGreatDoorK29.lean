/- A run by the kernel whose code is made ready once. -/
import Derived.Test.YtnooejmbhdgbpaaGreatDoorK28
set_option linter.unusedVariables false
set_option linter.unusedSimpArgs false
namespace Go.Gz
/-- Slots, by fours. -/
inductive T4 where
  | leaf (f : Nat → AV)
  | node (a b c d : T4)
noncomputable def sel4 {α : Type} (m : Nat) (a b c d : α) : α := Nat.rec (motive := fun _ => α) a (fun m _ => Nat.rec (motive := fun _ => α) b (fun m _ => Nat.rec (motive := fun _ => α) c (fun _ _ => d) m) m) m
theorem sel4_eq {α : Type} (m : Nat) (a b c d : α) : sel4 m a b c d = if m = 0 then a else if m = 1 then b else if m = 2 then c else d := by
  match m with
  | 0 => rfl
  | 1 => rfl
  | 2 => rfl
  | n + 3 =>
    have h0 : ¬ n + 3 = 0 := by omega
    have h1 : ¬ n + 3 = 1 := by omega
    have h2 : ¬ n + 3 = 2 := by omega
    rw [if_neg h0, if_neg h1, if_neg h2]; rfl
noncomputable def T4.get (t : T4) : Nat → AV :=
  T4.rec (motive := fun _ => Nat → AV) (fun f => f) (fun _ _ _ _ ga gb gc gd k => sel4 (Nat.mod k 4) (ga (Nat.div k 4)) (gb (Nat.div k 4)) (gc (Nat.div k 4)) (gd (Nat.div k 4))) t
noncomputable def T4.put (t : T4) (k : Nat) (v : AV) : T4 :=
  T4.rec (motive := fun _ => Nat → T4) (fun f k => .leaf fun j => Bool.rec (motive := fun _ => AV) (f j) v (Nat.beq j k)) (fun a b c d pa pb pc pd k => sel4 (Nat.mod k 4) (.node (pa (Nat.div k 4)) b c d) (.node a (pb (Nat.div k 4)) c d) (.node a b (pc (Nat.div k 4)) d) (.node a b c (pd (Nat.div k 4)))) t k
noncomputable def T4.full (d : Nat) (f : Nat → AV) : T4 :=
  Nat.rec (motive := fun _ => (Nat → AV) → T4) (fun f => .leaf f) (fun _ ih f => .node (ih fun k => f (Nat.mul 4 k)) (ih fun k => f (Nat.add (Nat.mul 4 k) 1)) (ih fun k => f (Nat.add (Nat.mul 4 k) 2)) (ih fun k => f (Nat.add (Nat.mul 4 k) 3))) d f
theorem T4.get_node (a b c d : T4) (k : Nat) : (T4.node a b c d).get k = if k % 4 = 0 then a.get (k / 4) else if k % 4 = 1 then b.get (k / 4) else if k % 4 = 2 then c.get (k / 4) else d.get (k / 4) := sel4_eq _ _ _ _ _
theorem T4.put_node (a b c d : T4) (k : Nat) (v : AV) : (T4.node a b c d).put k v = if k % 4 = 0 then .node (a.put (k / 4) v) b c d else if k % 4 = 1 then .node a (b.put (k / 4) v) c d else if k % 4 = 2 then .node a b (c.put (k / 4) v) d else .node a b c (d.put (k / 4) v) := sel4_eq _ _ _ _ _
theorem T4.get_put (v : AV) : ∀ (t : T4) (k j : Nat), (t.put k v).get j = if j = k then v else t.get j
  | .leaf f, k, j => by
    show @Bool.rec (fun _ => AV) (f j) v (Nat.beq j k) = _
    rw [brec]; simp only [Nat.beq_eq]; rfl
  | .node a b c d, k, j => by
    have ha := T4.get_put v a (k / 4) (j / 4)
    have hb := T4.get_put v b (k / 4) (j / 4)
    have hc := T4.get_put v c (k / 4) (j / 4)
    have hd := T4.get_put v d (k / 4) (j / 4)
    have hj : j = k ↔ j % 4 = k % 4 ∧ j / 4 = k / 4 := by omega
    have hk4 : k % 4 < 4 := Nat.mod_lt _ (by decide)
    have hj4 : j % 4 < 4 := Nat.mod_lt _ (by decide)
    rw [T4.put_node]
    have split4 : ∀ m : Nat, m < 4 → m = 0 ∨ m = 1 ∨ m = 2 ∨ m = 3 := by omega
    rcases split4 _ hk4 with h | h | h | h <;> rcases split4 _ hj4 with h' | h' | h' | h' <;> simp [h, h', hj, T4.get_node, ha, hb, hc, hd]
theorem T4.get_full : ∀ (d : Nat) (f : Nat → AV) (k : Nat), (T4.full d f).get k = f k
  | 0, f, k => rfl
  | d + 1, f, k => by
    show (T4.node (T4.full d fun k => f (4 * k)) (T4.full d fun k => f (4 * k + 1)) (T4.full d fun k => f (4 * k + 2)) (T4.full d fun k => f (4 * k + 3))).get k = f k
    rw [T4.get_node, T4.get_full d, T4.get_full d, T4.get_full d, T4.get_full d]
    have hk4 : k % 4 < 4 := Nat.mod_lt _ (by decide)
    split
    · congr 1; omega
    · split
      · congr 1; omega
      · split
        · congr 1; omega
        · congr 1; omega
/-! What is made ready. -/
structure Ce where
  r : T4 → AV
structure Cp where
  r : T4 → AV → T4
structure Cl where
  r : T4 → List AV
structure Cq where
  r : T4 → List AV → Option (List AV)
structure Co where
  r : T4 → TH → (AV → TH → Bool) → Bool
structure Cd where
  r : (T4 → TH → Bool) → T4 → TH → Bool
structure Ct where
  r : (T4 → TH → Bool) → List Pend → T4 → TH → Bool
abbrev ZQ := MExit → T4 → TH → Bool
structure Cc where
  r : ZQ → T4 → TH → Bool
structure Cr where
  r : T4 → TH → Option (List AV)
structure Cb where
  r : AV → AV → Option AV
structure Cf where
  r : List AV → TH → (AV → TH → Bool) → Bool
noncomputable def gA (k : Nat) (g : Ce) : Ce := ⟨fun T => T4.rec (motive := fun _ => AV) (fun f => f k) (fun a _ _ _ _ _ _ _ => g.r a) T⟩
noncomputable def gB (k : Nat) (g : Ce) : Ce := ⟨fun T => T4.rec (motive := fun _ => AV) (fun f => f k) (fun _ a _ _ _ _ _ _ => g.r a) T⟩
noncomputable def gC (k : Nat) (g : Ce) : Ce := ⟨fun T => T4.rec (motive := fun _ => AV) (fun f => f k) (fun _ _ a _ _ _ _ _ => g.r a) T⟩
noncomputable def gD (k : Nat) (g : Ce) : Ce := ⟨fun T => T4.rec (motive := fun _ => AV) (fun f => f k) (fun _ _ _ a _ _ _ _ => g.r a) T⟩
noncomputable def gt (d : Nat) : Nat → Ce := Nat.rec (motive := fun _ => Nat → Ce) (fun k => ⟨fun T => T.get k⟩) (fun _ ih k => sel4 (Nat.mod k 4) (gA k (ih (Nat.div k 4))) (gB k (ih (Nat.div k 4))) (gC k (ih (Nat.div k 4))) (gD k (ih (Nat.div k 4)))) d
theorem gt_eq : ∀ (d k : Nat) (T : T4), (gt d k).r T = T.get k
  | 0, k, T => rfl
  | d + 1, k, T => by
    show (sel4 (k % 4) (gA k (gt d (k / 4))) (gB k (gt d (k / 4))) (gC k (gt d (k / 4))) (gD k (gt d (k / 4)))).r T = T.get k
    rw [sel4_eq]
    cases T with
    | leaf f => split <;> first | rfl | (split <;> first | rfl | (split <;> rfl))
    | node a b c e =>
      rw [T4.get_node]
      split
      · exact gt_eq d _ a
      · split
        · exact gt_eq d _ b
        · split
          · exact gt_eq d _ c
          · exact gt_eq d _ e
noncomputable def pA (k : Nat) (p : Cp) : Cp := ⟨fun T v => T4.rec (motive := fun _ => T4) (fun f => (T4.leaf f).put k v) (fun a b c d _ _ _ _ => .node (p.r a v) b c d) T⟩
noncomputable def pB (k : Nat) (p : Cp) : Cp := ⟨fun T v => T4.rec (motive := fun _ => T4) (fun f => (T4.leaf f).put k v) (fun a b c d _ _ _ _ => .node a (p.r b v) c d) T⟩
noncomputable def pC (k : Nat) (p : Cp) : Cp := ⟨fun T v => T4.rec (motive := fun _ => T4) (fun f => (T4.leaf f).put k v) (fun a b c d _ _ _ _ => .node a b (p.r c v) d) T⟩
noncomputable def pD (k : Nat) (p : Cp) : Cp := ⟨fun T v => T4.rec (motive := fun _ => T4) (fun f => (T4.leaf f).put k v) (fun a b c d _ _ _ _ => .node a b c (p.r d v)) T⟩
noncomputable def pt (d : Nat) : Nat → Cp := Nat.rec (motive := fun _ => Nat → Cp) (fun k => ⟨fun T v => T.put k v⟩) (fun _ ih k => sel4 (Nat.mod k 4) (pA k (ih (Nat.div k 4))) (pB k (ih (Nat.div k 4))) (pC k (ih (Nat.div k 4))) (pD k (ih (Nat.div k 4)))) d
theorem pt_eq : ∀ (d k : Nat) (T : T4) (v : AV), (pt d k).r T v = T.put k v
  | 0, k, T, v => rfl
  | d + 1, k, T, v => by
    show (sel4 (k % 4) (pA k (pt d (k / 4))) (pB k (pt d (k / 4))) (pC k (pt d (k / 4))) (pD k (pt d (k / 4)))).r T v = T.put k v
    rw [sel4_eq]
    cases T with
    | leaf f => split <;> first | rfl | (split <;> first | rfl | (split <;> rfl))
    | node a b c e =>
      rw [T4.put_node]
      split
      · show T4.node ((pt d (k / 4)).r a v) b c e = _; rw [pt_eq d]
      · split
        · show T4.node a ((pt d (k / 4)).r b v) c e = _; rw [pt_eq d]
        · split
          · show T4.node a b ((pt d (k / 4)).r c v) e = _; rw [pt_eq d]
          · show T4.node a b c ((pt d (k / 4)).r e v) = _; rw [pt_eq d]
theorem put_putB (T : T4) (t : Nat) (v : AV) : (T.put t v).get = putB T.get (some t) v := by
  rw [putB_eq]; funext k; exact T4.get_put v T t k
noncomputable def zOpd (d : Nat) (o : Opd) : Ce := Opd.rec (motive := fun _ => Ce) (fun n => gt d n) (fun v => ⟨fun _ => v⟩) o
theorem zOpd_eq (d : Nat) (o : Opd) (T : T4) : (zOpd d o).r T = o.ev T.get := by
  cases o with
  | t n => exact gt_eq d n T
  | c v => rfl
noncomputable def zArgs (d : Nat) (l : List Opd) : Cl := List.rec (motive := fun _ => Cl) ⟨fun _ => []⟩ (fun o _ ih => ⟨fun T => (zOpd d o).r T :: ih.r T⟩) l
theorem zArgs_eq (d : Nat) : ∀ (l : List Opd) (T : T4), (zArgs d l).r T = l.map (Opd.ev T.get)
  | [], T => rfl
  | o :: l, T => by
    show (zOpd d o).r T :: (zArgs d l).r T = _
    rw [zOpd_eq, zArgs_eq d l]; rfl
/-! Values. -/
abbrev av0 {α : Type} (z : α) (v : AV) : α := z
noncomputable def zCells (v : AV) : Option (List AV) :=
  AV.rec (motive_1 := fun _ => Option (List AV)) (motive_2 := fun _ => Unit) (motive_3 := fun _ => Unit) (fun b => some [.bool b]) (fun k n => some [.int k n]) (fun s => some [.str s]) (some [.nilptr]) (fun a b => some [.ptr a b]) (fun c _ => some [.iptr c]) (some [.nilslice]) (fun a b c d e => some [.slice a b c d e]) (fun r f n _ => some [.imm r f n]) (fun f c _ => some [.func f c]) (some [.nilfunc]) (fun c _ => some c) (fun _ _ => none) none (some [.nilif]) (some [.someif]) (fun a b c => some [.brow a b c]) (fun a b => some [.bptr a b]) (fun a => some [.map a]) (some [.nilmap]) () (fun _ _ _ _ => ()) () (fun _ _ _ _ => ()) v
theorem zCells_eq (v : AV) : zCells v = v.cells? := by cases v <;> rfl
noncomputable def zIsCell (v : AV) : Bool :=
  AV.rec (motive_1 := fun _ => Bool) (motive_2 := fun _ => Unit) (motive_3 := fun _ => Unit) (fun _ => true) (fun _ _ => true) (fun _ => true) true (fun _ _ => true) (fun _ _ => true) true (fun _ _ _ _ _ => true) (fun _ _ _ _ => true) (fun _ _ _ => true) true (fun _ _ => false) (fun _ _ => false) false true true (fun _ _ _ => true) (fun _ _ => true) (fun _ => true) true () (fun _ _ _ _ => ()) () (fun _ _ _ _ => ()) v
theorem zIsCell_eq (v : AV) : zIsCell v = v.isCell := by cases v <;> rfl
noncomputable def zAll (l : List AV) : Bool := List.rec (motive := fun _ => Bool) true (fun x _ ih => Bool.rec (motive := fun _ => Bool) false ih (zIsCell x)) l
theorem zAll_eq : ∀ l : List AV, zAll l = l.all (·.isCell)
  | [] => rfl
  | x :: l => by
    show @Bool.rec (fun _ => Bool) false (zAll l) (zIsCell x) = _
    rw [brec, zAll_eq l, zIsCell_eq, List.all_cons]
    cases x.isCell <;> simp
noncomputable def zLen {α : Type} (l : List α) : Nat := List.rec (motive := fun _ => Nat) 0 (fun _ _ ih => Nat.succ ih) l
theorem zLen_eq {α : Type} : ∀ l : List α, zLen l = l.length
  | [] => rfl
  | x :: l => by show Nat.succ (zLen l) = _; rw [zLen_eq l]; rfl
noncomputable def zNth (l : List AV) : Nat → Option AV := List.rec (motive := fun _ => Nat → Option AV) (fun _ => none) (fun x _ ih k => Nat.rec (motive := fun _ => Option AV) (some x) (fun k _ => ih k) k) l
theorem zNth_eq : ∀ (l : List AV) (k : Nat), zNth l k = l[k]?
  | [], k => by simp; rfl
  | x :: l, 0 => by simp; rfl
  | x :: l, k + 1 => by
    show zNth l k = _
    rw [zNth_eq l k]; simp
noncomputable def zCons (x : AV) (o : Option (List AV)) : Option (List AV) := Option.rec (motive := fun _ => Option (List AV)) none (fun r => some (x :: r)) o
noncomputable def zTake (n : Nat) : List AV → Option (List AV) := Nat.rec (motive := fun _ => List AV → Option (List AV)) (fun _ => some []) (fun _ ih cs => List.rec (motive := fun _ => Option (List AV)) none (fun x r _ => zCons x (ih r)) cs) n
noncomputable def zSub (cs : List AV) (off n : Nat) : Option (List AV) := Nat.rec (motive := fun _ => List AV → Option (List AV)) (fun cs => zTake n cs) (fun _ ih cs => List.rec (motive := fun _ => Option (List AV)) none (fun _ r _ => ih r) cs) off cs
theorem zTake_eq : ∀ (n : Nat) (cs : List AV), zTake n cs = if n ≤ cs.length then some (cs.take n) else none
  | 0, cs => by simp; rfl
  | n + 1, [] => by simp; rfl
  | n + 1, x :: r => by
    show zCons x (zTake n r) = _
    rw [zTake_eq n r]
    by_cases h : n ≤ r.length
    · rw [if_pos h, if_pos (by simp; omega)]; rfl
    · rw [if_neg h, if_neg (by simp; omega)]; rfl
theorem zSub_eq : ∀ (cs : List AV) (off n : Nat), zSub cs off n = sub cs off n
  | cs, 0, n => by
    show zTake n cs = _
    rw [zTake_eq]; unfold sub; simp
  | [], off + 1, n => by
    show none = _
    unfold sub; rw [if_neg (by simp only [List.length_nil]; omega)]
  | x :: r, off + 1, n => by
    show zSub r off n = _
    rw [zSub_eq r off n]
    unfold sub
    by_cases h : off + n ≤ r.length
    · rw [if_pos h, if_pos (by simp; omega)]; rfl
    · rw [if_neg h, if_neg (by simp; omega)]
noncomputable def zOver (xs : List AV) : List AV → Option (List AV) := List.rec (motive := fun _ => List AV → Option (List AV)) (fun cs => some cs) (fun x _ ih cs => List.rec (motive := fun _ => Option (List AV)) none (fun _ r _ => zCons x (ih r)) cs) xs
noncomputable def zPut (cs : List AV) (off : Nat) (xs : List AV) : Option (List AV) := Nat.rec (motive := fun _ => List AV → Option (List AV)) (fun cs => zOver xs cs) (fun _ ih cs => List.rec (motive := fun _ => Option (List AV)) none (fun x r _ => zCons x (ih r)) cs) off cs
theorem zOver_eq : ∀ (xs cs : List AV), zOver xs cs = if xs.length ≤ cs.length then some (xs ++ cs.drop xs.length) else none
  | [], cs => by simp; rfl
  | x :: xs, [] => by simp; rfl
  | x :: xs, c :: cs => by
    show zCons x (zOver xs cs) = _
    rw [zOver_eq xs cs]
    by_cases h : xs.length ≤ cs.length
    · rw [if_pos h, if_pos (by simp; omega)]; simp [zCons]
    · rw [if_neg h, if_neg (by simp; omega)]; rfl
theorem zPut_eq : ∀ (cs : List AV) (off : Nat) (xs : List AV), zPut cs off xs = Gz.put cs off xs
  | cs, 0, xs => by
    show zOver xs cs = _
    rw [zOver_eq]; unfold Gz.put; simp
  | [], off + 1, xs => by
    show none = _
    unfold Gz.put; rw [if_neg (by simp only [List.length_nil]; omega)]
  | x :: r, off + 1, xs => by
    show zCons x (zPut r off xs) = _
    rw [zPut_eq r off xs]
    unfold Gz.put
    by_cases h : off + xs.length ≤ r.length
    · rw [if_pos h, if_pos (by simp; omega)]
      show some (x :: _) = _
      congr 1
      rw [show off + 1 + xs.length = off + xs.length + 1 by omega]
      simp
    · rw [if_neg h, if_neg (by simp; omega)]; rfl
/-! Numbers. -/
noncomputable def kmax (k : IntKind) : Nat := IntKind.rec (motive := fun _ => Nat) 127 32767 2147483647 9223372036854775807 255 65535 4294967295 18446744073709551615 k
noncomputable def ikN (k : IntKind) : Nat := IntKind.rec (motive := fun _ => Nat) 0 1 2 3 4 5 6 7 k
theorem ikN_eq {a b : IntKind} (h : Nat.beq (ikN a) (ikN b) = true) : a = b := by
  have := Nat.eq_of_beq_eq_true h
  cases a <;> cases b <;> first | rfl | (simp [ikN] at this)
theorem wrap_small {k : IntKind} {n : Nat} (h : n ≤ kmax k) : IntKind.wrap k (Int.ofNat n) = Int.ofNat n := by
  cases k <;> simp only [kmax] at h <;> simp only [IntKind.wrap, IntKind.bits, IntKind.signed, Int.ofNat_eq_natCast, Int.reducePow, Nat.reduceSub, ge_iff_le, Bool.true_and, Bool.false_and, Bool.false_eq_true, if_false, decide_eq_true_eq] <;> (try split) <;> omega
noncomputable def wrapN (k : IntKind) (s : Nat) : Int := Bool.rec (motive := fun _ => Int) (IntKind.wrap k (Int.ofNat s)) (Int.ofNat s) (Nat.ble s (kmax k))
theorem wrapN_eq (k : IntKind) (s : Nat) : wrapN k s = IntKind.wrap k (Int.ofNat s) := by
  unfold wrapN
  rw [brec]
  split
  · rename_i h; rw [wrap_small (Nat.le_of_ble_eq_true h)]
  · rfl
noncomputable def wrapF (k : IntKind) (n : Int) : Int := Int.rec (motive := fun _ => Int) (fun a => wrapN k a) (fun a => IntKind.wrap k (Int.negSucc a)) n
theorem wrapF_eq (k : IntKind) (n : Int) : wrapF k n = IntKind.wrap k n := by
  cases n with
  | ofNat a => exact wrapN_eq k a
  | negSucc a => rfl
noncomputable def addF (k : IntKind) (x y : Int) : Int := Int.rec (motive := fun _ => Int → Int) (fun a y => Int.rec (motive := fun _ => Int) (fun b => wrapN k (Nat.add a b)) (fun b => IntKind.wrap k (Int.ofNat a + Int.negSucc b)) y) (fun a y => IntKind.wrap k (Int.negSucc a + y)) x y
theorem addF_eq (k : IntKind) (x y : Int) : addF k x y = IntKind.wrap k (x + y) := by
  cases x with
  | negSucc a => rfl
  | ofNat a =>
    cases y with
    | negSucc b => rfl
    | ofNat b => exact wrapN_eq k (a + b)
noncomputable def subF (k : IntKind) (x y : Int) : Int := Int.rec (motive := fun _ => Int → Int) (fun a y => Int.rec (motive := fun _ => Int) (fun b => Bool.rec (motive := fun _ => Int) (IntKind.wrap k (Int.ofNat a - Int.ofNat b)) (wrapN k (Nat.sub a b)) (Nat.ble b a)) (fun b => IntKind.wrap k (Int.ofNat a - Int.negSucc b)) y) (fun a y => IntKind.wrap k (Int.negSucc a - y)) x y
theorem subF_eq (k : IntKind) (x y : Int) : subF k x y = IntKind.wrap k (x - y) := by
  cases x with
  | negSucc a => rfl
  | ofNat a =>
    cases y with
    | negSucc b => rfl
    | ofNat b =>
      show @Bool.rec (fun _ => Int) (IntKind.wrap k (Int.ofNat a - Int.ofNat b)) (wrapN k (Nat.sub a b)) (Nat.ble b a) = _
      rw [brec]
      split
      · rename_i h
        have h := Nat.le_of_ble_eq_true h
        rw [wrapN_eq]
        congr 1
        show ((a - b : Nat) : Int) = (a : Int) - (b : Int)
        omega
      · rfl
noncomputable def mulF (k : IntKind) (x y : Int) : Int := Int.rec (motive := fun _ => Int → Int) (fun a y => Int.rec (motive := fun _ => Int) (fun b => wrapN k (Nat.mul a b)) (fun b => IntKind.wrap k (Int.ofNat a * Int.negSucc b)) y) (fun a y => IntKind.wrap k (Int.negSucc a * y)) x y
theorem mulF_eq (k : IntKind) (x y : Int) : mulF k x y = IntKind.wrap k (x * y) := by
  cases x with
  | negSucc a => rfl
  | ofNat a =>
    cases y with
    | negSucc b => rfl
    | ofNat b => exact wrapN_eq k (a * b)
noncomputable def ltF (x y : Int) : Bool := Int.rec (motive := fun _ => Int → Bool) (fun a y => Int.rec (motive := fun _ => Bool) (fun b => Nat.ble (Nat.succ a) b) (fun _ => false) y) (fun a y => Int.rec (motive := fun _ => Bool) (fun _ => true) (fun b => Nat.ble (Nat.succ b) a) y) x y
theorem ltF_eq (x y : Int) : ltF x y = decide (x < y) := by
  cases x with
  | ofNat a =>
    cases y with
    | ofNat b =>
      show Nat.ble (a + 1) b = decide ((a : Int) < (b : Int))
      rw [Bool.eq_iff_iff]; simp only [Nat.ble_eq, decide_eq_true_eq]; omega
    | negSucc b =>
      show false = _
      symm; rw [decide_eq_false_iff_not]
      have : Int.negSucc b < 0 := Int.negSucc_lt_zero b
      have h2 : (0 : Int) ≤ Int.ofNat a := Int.natCast_nonneg a
      omega
  | negSucc a =>
    cases y with
    | ofNat b =>
      show true = _
      symm; rw [decide_eq_true_eq]
      have : Int.negSucc a < 0 := Int.negSucc_lt_zero a
      have h2 : (0 : Int) ≤ Int.ofNat b := Int.natCast_nonneg b
      omega
    | negSucc b =>
      show Nat.ble (b + 1) a = decide (Int.negSucc a < Int.negSucc b)
      rw [Bool.eq_iff_iff]
      simp only [Nat.ble_eq, decide_eq_true_eq, Int.negSucc_eq]
      omega
noncomputable def eqF (x y : Int) : Bool := Int.rec (motive := fun _ => Int → Bool) (fun a y => Int.rec (motive := fun _ => Bool) (fun b => Nat.beq a b) (fun _ => false) y) (fun a y => Int.rec (motive := fun _ => Bool) (fun _ => false) (fun b => Nat.beq a b) y) x y
theorem eqF_eq (x y : Int) : eqF x y = (x == y) := by
  cases x with
  | ofNat a =>
    cases y with
    | ofNat b =>
      show Nat.beq a b = _
      rw [Bool.eq_iff_iff]; simp only [Nat.beq_eq, beq_iff_eq, Int.ofNat_eq_natCast]; omega
    | negSucc b => show false = _; symm; rw [beq_eq_false_iff_ne]; intro h; cases h
  | negSucc a =>
    cases y with
    | ofNat b => show false = _; symm; rw [beq_eq_false_iff_ne]; intro h; cases h
    | negSucc b =>
      show Nat.beq a b = _
      rw [Bool.eq_iff_iff]; simp
noncomputable def notF (b : Bool) : Bool := Bool.rec (motive := fun _ => Bool) true false b
theorem notF_eq (b : Bool) : notF b = !b := by cases b <;> rfl
theorem leF_eq (x y : Int) : notF (ltF y x) = decide (x ≤ y) := by
  rw [notF_eq, ltF_eq, Bool.eq_iff_iff]; simp only [Bool.not_eq_true', decide_eq_false_iff_not, decide_eq_true_eq]; omega
/-- Of two numbers of a kind. -/
noncomputable def iSel (f : IntKind → Int → Int → AV) (x y : AV) : Option AV :=
  AV.rec (motive_1 := fun _ => AV → Option AV) (motive_2 := fun _ => Unit) (motive_3 := fun _ => Unit) (fun _ _ => none)
    (fun k a y => AV.rec (motive_1 := fun _ => IntKind → Int → Option AV) (motive_2 := fun _ => Unit) (motive_3 := fun _ => Unit) (fun _ _ _ => none) (fun k' b k a => Bool.rec (motive := fun _ => Option AV) none (some (f k a b)) (Nat.beq (ikN k) (ikN k'))) (fun _ _ _ => none) (fun _ _ => none) (fun _ _ _ _ => none) (fun _ _ _ _ => none) (fun _ _ => none) (fun _ _ _ _ _ _ _ => none) (fun _ _ _ _ _ _ => none) (fun _ _ _ _ _ => none) (fun _ _ => none) (fun _ _ _ _ => none) (fun _ _ _ _ => none) (fun _ _ => none) (fun _ _ => none) (fun _ _ => none) (fun _ _ _ => (fun _ _ => none)) (fun _ _ => (fun _ _ => none)) (fun _ => (fun _ _ => none)) (fun _ _ => none) () (fun _ _ _ _ => ()) () (fun _ _ _ _ => ()) y k a)
    (fun _ _ => none) (fun _ => none) (fun _ _ _ => none) (fun _ _ _ => none) (fun _ => none) (fun _ _ _ _ _ _ => none) (fun _ _ _ _ _ => none) (fun _ _ _ _ => none) (fun _ => none) (fun _ _ _ => none) (fun _ _ _ => none) (fun _ => none) (fun _ => none) (fun _ => none) (fun _ _ _ => (fun _ => none)) (fun _ _ => (fun _ => none)) (fun _ => (fun _ => none)) (fun _ => none) () (fun _ _ _ _ => ()) () (fun _ _ _ _ => ()) x y
theorem iSel_some {f : IntKind → Int → Int → AV} {x y v : AV} (h : iSel f x y = some v) : ∃ k a b, x = .int k a ∧ y = .int k b ∧ v = f k a b := by
  cases x with
  | int k a =>
    cases y with
    | int k' b =>
      have h2 : @Bool.rec (fun _ => Option AV) none (some (f k a b)) (Nat.beq (ikN k) (ikN k')) = some v := h
      rw [brec] at h2
      split at h2
      · rename_i hk
        have := ikN_eq hk
        subst this
        exact ⟨k, a, b, rfl, rfl, (Option.some.inj h2).symm⟩
      · cases h2
    | _ => cases h
  | _ => cases h
noncomputable def binF (f : IntKind → Int → Int → AV) (op : BinOp) (q : EqK) : Cb := ⟨fun x y => Option.rec (motive := fun _ => Option AV) (abin op q x y) (fun v => some v) (iSel f x y)⟩
noncomputable def cBin (op : BinOp) (q : EqK) : Cb :=
  BinOp.rec (motive := fun _ => EqK → Cb) (fun q => binF (fun k a b => .int k (addF k a b)) .add q) (fun q => binF (fun k a b => .int k (subF k a b)) .sub q) (fun q => binF (fun k a b => .int k (mulF k a b)) .mul q)
    (fun q => ⟨fun x y => abin .quo q x y⟩) (fun q => ⟨fun x y => abin .rem q x y⟩) (fun q => ⟨fun x y => abin .and q x y⟩) (fun q => ⟨fun x y => abin .or q x y⟩) (fun q => ⟨fun x y => abin .xor q x y⟩) (fun q => ⟨fun x y => abin .shl q x y⟩) (fun q => ⟨fun x y => abin .shr q x y⟩) (fun q => ⟨fun x y => abin .andNot q x y⟩)
    (fun q => binF (fun k a b => .bool (eqF a b)) .eql q) (fun q => binF (fun k a b => .bool (notF (eqF a b))) .neq q) (fun q => binF (fun k a b => .bool (ltF a b)) .lss q) (fun q => binF (fun k a b => .bool (notF (ltF b a))) .leq q) (fun q => binF (fun k a b => .bool (ltF b a)) .gtr q) (fun q => binF (fun k a b => .bool (notF (ltF a b))) .geq q) op q
theorem binF_eq {f : IntKind → Int → Int → AV} {op : BinOp} {q : EqK} (h : ∀ k a b, some (f k a b) = abin op q (.int k a) (.int k b)) (x y : AV) : (binF f op q).r x y = abin op q x y := by
  show @Option.rec AV (fun _ => Option AV) (abin op q x y) (fun v => some v) (iSel f x y) = _
  cases hs : iSel f x y with
  | none => rfl
  | some v =>
    obtain ⟨k, a, b, rfl, rfl, rfl⟩ := iSel_some hs
    exact h k a b
theorem cBin_eq (op : BinOp) (q : EqK) (x y : AV) : (cBin op q).r x y = abin op q x y := by
  cases op <;> first
    | rfl
    | (refine binF_eq (fun k a b => ?_) x y; simp only [abin, intBin, addF_eq, subF_eq, mulF_eq, eqF_eq, leF_eq]; first | rfl | simp [ltF_eq, notF_eq, bne])
end Go.Gz
