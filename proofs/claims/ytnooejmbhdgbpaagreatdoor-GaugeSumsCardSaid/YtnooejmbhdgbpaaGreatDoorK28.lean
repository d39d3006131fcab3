/- A faster run by the kernel: slots and blocks lie in trees. -/
import Derived.Test.YtnooejmbhdgbpaaGreatDoorK20
set_option linter.unusedVariables false
set_option linter.unusedSimpArgs false
namespace Go.Gz
/-- A tree by the bits of a number. -/
inductive Tr (α : Type) where
  | leaf (f : Nat → α)
  | node (l r : Tr α)
noncomputable def Tr.get {α : Type} (t : Tr α) : Nat → α :=
  Tr.rec (motive := fun _ => Nat → α) (fun f => f) (fun _ _ gl gr k => Bool.rec (gr (Nat.div k 2)) (gl (Nat.div k 2)) (Nat.beq (Nat.mod k 2) 0)) t
noncomputable def Tr.put {α : Type} (t : Tr α) (k : Nat) (v : α) : Tr α :=
  Tr.rec (motive := fun _ => Nat → Tr α) (fun f k => .leaf fun j => Bool.rec (f j) v (Nat.beq j k)) (fun l r pl pr k => Bool.rec (.node l (pr (Nat.div k 2))) (.node (pl (Nat.div k 2)) r) (Nat.beq (Nat.mod k 2) 0)) t k
noncomputable def Tr.full {α : Type} (d : Nat) (f : Nat → α) : Tr α :=
  Nat.rec (motive := fun _ => (Nat → α) → Tr α) (fun f => .leaf f) (fun _ ih f => .node (ih fun k => f (Nat.mul 2 k)) (ih fun k => f (Nat.succ (Nat.mul 2 k)))) d f
theorem brec {α : Type} (a b : α) (c : Bool) : @Bool.rec (fun _ => α) a b c = if c = true then b else a := by cases c <;> rfl
theorem Tr.get_node {α : Type} (l r : Tr α) (k : Nat) : (Tr.node l r).get k = if k % 2 = 0 then l.get (k / 2) else r.get (k / 2) := by
  show @Bool.rec (fun _ => α) (r.get (k / 2)) (l.get (k / 2)) (Nat.beq (k % 2) 0) = _
  rw [brec]; simp [Nat.beq_eq]
theorem Tr.put_node {α : Type} (l r : Tr α) (k : Nat) (v : α) : (Tr.node l r).put k v = if k % 2 = 0 then .node (l.put (k / 2) v) r else .node l (r.put (k / 2) v) := by
  show @Bool.rec (fun _ => Tr α) (.node l (r.put (k / 2) v)) (.node (l.put (k / 2) v) r) (Nat.beq (k % 2) 0) = _
  rw [brec]; simp [Nat.beq_eq]
theorem Tr.get_put {α : Type} (v : α) : ∀ (t : Tr α) (k j : Nat), (t.put k v).get j = if j = k then v else t.get j
  | .leaf f, k, j => by
    show @Bool.rec (fun _ => α) (f j) v (Nat.beq j k) = _
    rw [brec]; simp only [Nat.beq_eq]; rfl
  | .node l r, k, j => by
    rw [Tr.put_node]
    by_cases hk : k % 2 = 0
    · rw [if_pos hk, Tr.get_node, Tr.get_node]
      by_cases hj : j % 2 = 0
      · rw [if_pos hj, if_pos hj, Tr.get_put v l]
        by_cases h : j = k
        · subst h; simp
        · rw [if_neg h, if_neg (by omega)]
      · rw [if_neg hj, if_neg hj, if_neg (by intro h; subst h; exact hj hk)]
    · rw [if_neg hk, Tr.get_node, Tr.get_node]
      by_cases hj : j % 2 = 0
      · rw [if_pos hj, if_pos hj, if_neg (by intro h; subst h; exact hk hj)]
      · rw [if_neg hj, if_neg hj, Tr.get_put v r]
        by_cases h : j = k
        · subst h; simp
        · rw [if_neg h, if_neg (by omega)]
theorem Tr.get_full {α : Type} : ∀ (d : Nat) (f : Nat → α) (k : Nat), (Tr.full d f).get k = f k
  | 0, f, k => rfl
  | d + 1, f, k => by
    show (Tr.node (Tr.full d fun k => f (2 * k)) (Tr.full d fun k => f (2 * k + 1))).get k = f k
    rw [Tr.get_node]
    by_cases hk : k % 2 = 0
    · rw [if_pos hk, Tr.get_full d]; congr 1; omega
    · rw [if_neg hk, Tr.get_full d]; congr 1; omega
abbrev TEnv := Tr AV
noncomputable def tput (T : TEnv) (d : Option Nat) (v : AV) : TEnv := Option.rec (motive := fun _ => TEnv) T (fun t => T.put t v) d
theorem tput_eq (T : TEnv) (d : Option Nat) (v : AV) : (tput T d v).get = putB T.get d v := by
  cases d with
  | none => rfl
  | some t =>
    rw [putB_eq]
    funext k
    show (T.put t v).get k = if k = t then v else T.get k
    exact Tr.get_put v T t k
/-- A heap: how many blocks, and the blocks. -/
structure TH where
  n : Nat
  t : Tr (Option (List AV))
noncomputable def TH.toL (H : TH) : AHeap := (List.range H.n).map H.t.get
noncomputable def TH.get (H : TH) (id : Nat) : Option (List AV) := Bool.rec none (H.t.get id) (Nat.blt id H.n)
noncomputable def TH.set (H : TH) (id : Nat) (c : List AV) : TH := ⟨H.n, H.t.put id (some c)⟩
noncomputable def TH.kill (H : TH) (id : Nat) : TH := ⟨H.n, H.t.put id none⟩
noncomputable def TH.push (H : TH) (c : List AV) : TH := ⟨Nat.add H.n 1, H.t.put H.n (some c)⟩
theorem TH.idx (H : TH) (i : Nat) : H.toL[i]? = if i < H.n then some (H.t.get i) else none := by
  unfold TH.toL
  rw [List.getElem?_map]
  by_cases h : i < H.n
  · rw [if_pos h, List.getElem?_range h]; rfl
  · rw [if_neg h, List.getElem?_eq_none (by simp; omega)]; rfl
theorem TH.len (H : TH) : H.toL.length = H.n := by simp [TH.toL]
theorem TH.get_eq (H : TH) (id : Nat) : H.get id = hget H.toL id := by
  unfold TH.get hget
  rw [brec, TH.idx]
  by_cases h : id < H.n
  · simp [h]
  · simp [h]
theorem TH.set_eq (H : TH) (id : Nat) (c : List AV) : (H.set id c).toL = hset H.toL id c := by
  apply List.ext_getElem?
  intro i
  unfold hset
  rw [TH.idx, List.getElem?_set, TH.idx, TH.len]
  show (if i < H.n then some ((H.t.put id (some c)).get i) else none) = _
  rw [Tr.get_put]
  by_cases h : i < H.n <;> by_cases h2 : id = i
  · subst h2; simp [h]
  · simp [h, h2, show ¬ i = id from fun e => h2 e.symm]
  · subst h2; simp [h]
  · simp [h, h2]
theorem TH.kill_eq (H : TH) (id : Nat) : (H.kill id).toL = hkill H.toL id := by
  apply List.ext_getElem?
  intro i
  unfold hkill
  rw [TH.idx, List.getElem?_set, TH.idx, TH.len]
  show (if i < H.n then some ((H.t.put id none).get i) else none) = _
  rw [Tr.get_put]
  by_cases h : i < H.n <;> by_cases h2 : id = i
  · subst h2; simp [h]
  · simp [h, h2, show ¬ i = id from fun e => h2 e.symm]
  · subst h2; simp [h]
  · simp [h, h2]
theorem TH.push_eq (H : TH) (c : List AV) : (H.push c).toL = hpush H.toL c := by
  apply List.ext_getElem?
  intro i
  unfold hpush
  rw [TH.idx, List.getElem?_append, TH.len, TH.idx]
  show (if i < H.n + 1 then some ((H.t.put H.n (some c)).get i) else none) = _
  rw [Tr.get_put]
  by_cases h : i < H.n
  · rw [if_pos h, if_pos (by omega), if_pos h, if_neg (by omega)]
  · rw [if_neg h]
    by_cases h2 : i = H.n
    · subst h2; simp
    · rw [if_neg (by omega), List.getElem?_eq_none (by simp; omega)]
noncomputable def TH.ofL (l : AHeap) : TH := List.rec (motive := fun _ => TH → TH) (fun H => H) (fun c _ ih H => ih (Option.rec (motive := fun _ => TH) ((H.push []).kill H.n) (fun cs => H.push cs) c)) l ⟨0, Tr.full 11 fun _ => none⟩
theorem TH.ofL_go : ∀ (l : AHeap) (H : TH), (List.rec (motive := fun _ => TH → TH) (fun H => H) (fun c _ ih H => ih (Option.rec (motive := fun _ => TH) ((H.push []).kill H.n) (fun cs => H.push cs) c)) l H : TH).toL = H.toL ++ l
  | [], H => by simp
  | none :: l, H => by
    show (List.rec (motive := fun _ => TH → TH) (fun H => H) (fun c _ ih H => ih (Option.rec (motive := fun _ => TH) ((H.push []).kill H.n) (fun cs => H.push cs) c)) l ((H.push []).kill H.n) : TH).toL = _
    rw [TH.ofL_go l, TH.kill_eq, TH.push_eq, ← TH.len H]
    unfold hkill hpush
    rw [List.set_append_right _ _ (Nat.le_refl _)]
    simp
  | some cs :: l, H => by
    show (List.rec (motive := fun _ => TH → TH) (fun H => H) (fun c _ ih H => ih (Option.rec (motive := fun _ => TH) ((H.push []).kill H.n) (fun cs => H.push cs) c)) l (H.push cs) : TH).toL = _
    rw [TH.ofL_go l, TH.push_eq]
    unfold hpush
    simp
theorem TH.ofL_eq (l : AHeap) : (TH.ofL l).toL = l := by
  unfold TH.ofL
  rw [TH.ofL_go]
  rfl
/-! Operations. -/
noncomputable def tElems (H : TH) (esz : Nat) : AV → Option (List AV)
  | .slice id off len _ e => bif Nat.beq e esz then (match H.get id with | some c => sub c off (len * esz) | none => none) else none
  | .nilslice => some []
  | .imm rows _ _ => if rows.all (fun r => r.length == esz) then some rows.flatten else none
  | .str s => bif Nat.beq esz 1 then some (s.map byteAV) else none
  | _ => none
theorem tElems_eq (H : TH) (esz : Nat) (x : AV) : tElems H esz x = elemsOf H.toL esz x := by
  cases x <;> simp only [tElems, elemsOf]
  case slice id off len cap e =>
    rw [TH.get_eq]
    by_cases h : e = esz
    · have : Nat.beq e esz = true := by simp [h]
      rw [if_pos h, this]; simp only [cond_true]
      cases hget H.toL id <;> rfl
    · have : Nat.beq e esz = false := by rw [Bool.eq_false_iff]; intro hh; exact h (Nat.eq_of_beq_eq_true hh)
      rw [if_neg h, this]; rfl
  case str s =>
    by_cases h : esz = 1
    · have : Nat.beq esz 1 = true := by simp [h]
      rw [if_pos h, this]; rfl
    · have : Nat.beq esz 1 = false := by rw [Bool.eq_false_iff]; intro hh; exact h (Nat.eq_of_beq_eq_true hh)
      rw [if_neg h, this]; rfl
noncomputable def toL2 (o : Option (AV × TH)) : Option (AV × AHeap) := o.map fun p => (p.1, p.2.toL)
noncomputable def tGrown (H : TH) (esz n : Nat) (cs : List AV) : AV × TH := (.slice H.n 0 n none esz, H.push cs)
theorem tGrown_eq (H : TH) (esz n : Nat) (cs : List AV) : ((tGrown H esz n cs).1, (tGrown H esz n cs).2.toL) = grown H.toL esz n cs := by
  unfold tGrown grown
  rw [TH.len, ← TH.push_eq]
noncomputable def tAppS (esz ebytes : Nat) (s : AV) (xs : List AV) (n m : Nat) (H : TH) : Option (AV × TH) :=
  match s with
  | .nilslice => if n = 0 then some (.nilslice, H) else some (tGrown H esz n xs)
  | .imm rows full nn =>
    if full then
      if rows.isEmpty then some (tGrown H esz n xs)
      else if n = 0 then some (s, H)
      else (match tElems H esz s with | some old => some (tGrown H esz (m + n) (old ++ xs)) | none => none)
    else if n = 0 then some (s, H) else none
  | .slice id off len (some c) e =>
    if c = 0 then some (tGrown H esz n xs)
    else if len + n ≤ c then
      if e = esz then (match (H.get id).bind (Gz.put · (off + len * esz) xs) with | some cs => some (.slice id off (len + n) (some c) esz, H.set id cs) | none => none) else none
    else (match tElems H esz s with | some old => some (tGrown H esz (m + n) (old ++ xs)) | none => none)
  | .slice id off len none e =>
    (match tElems H esz s with | some old => some (tGrown (H.kill id) esz (m + n) (old ++ xs)) | none => none)
  | _ => none
noncomputable def tAppend (esz ebytes : Nat) (s x : AV) (H : TH) : Option (AV × TH) :=
  match tElems H esz x, lenOf x, lenOf s with
  | some xs, some n, some m => bif mayGrow (m + n) ebytes && xs.all (·.isCell) then tAppS esz ebytes s xs n m H else none
  | _, _, _ => none
theorem toL2_some (v : AV) (H : TH) : toL2 (some (v, H)) = some (v, H.toL) := rfl
theorem toL2_grown (H : TH) (esz n : Nat) (cs : List AV) : toL2 (some (tGrown H esz n cs)) = some (grown H.toL esz n cs) := by
  rw [← tGrown_eq]; rfl
theorem toL2_old (H H' : TH) (o : Option (List AV)) (esz n : Nat) (xs : List AV) : toL2 (match o with | some old => some (tGrown H' esz n (old ++ xs)) | none => none) = o.map fun old => grown H'.toL esz n (old ++ xs) := by
  cases o with
  | none => rfl
  | some old => rw [toL2_grown]; rfl
theorem tAppend_eq (esz ebytes : Nat) (s x : AV) (H : TH) : toL2 (tAppend esz ebytes s x H) = evAppend esz ebytes s x H.toL := by
  unfold tAppend evAppend
  rw [tElems_eq]
  cases elemsOf H.toL esz x with
  | none => rfl
  | some xs =>
    cases lenOf x with
    | none => rfl
    | some n =>
      cases lenOf s with
      | none => rfl
      | some m =>
        simp only
        cases hg : mayGrow (m + n) ebytes && xs.all (·.isCell)
        · simp only [cond_false]; rfl
        · simp only [cond_true, if_true]
          unfold tAppS
          cases s <;> try rfl
          case nilslice => simp only; split <;> first | rfl | exact toL2_grown _ _ _ _
          case imm rows full nn =>
            simp only [tElems_eq, toL2_old]
            cases full
            · simp only [Bool.false_eq_true, if_false]; split <;> rfl
            · simp only [if_true]
              split
              · exact toL2_grown _ _ _ _
              · split
                · rfl
                · exact toL2_old H H _ _ _ _
          case slice id off len cap e =>
            cases cap with
            | none => simp only [tElems_eq]; rw [← TH.kill_eq]; exact toL2_old H (H.kill id) _ _ _ _
            | some c =>
              simp only [tElems_eq, TH.get_eq]
              split
              · exact toL2_grown _ _ _ _
              · split
                · split
                  · generalize (hget H.toL id).bind (Gz.put · (off + len * esz) xs) = o
                    cases o with
                    | none => rfl
                    | some cs => simp only [toL2_some, TH.set_eq, Option.map_some]
                  · rfl
                · exact toL2_old H H _ _ _ _
def isHeapy : MOp → Bool
  | .alloc _ | .box _ | .buildSlice _ _ _ _ | .load1 _ | .loadN _ _ | .store _ _ _ | .resame _ | .toBytes _ | .ofBytes _ | .makeSlice _ _ _ _ _ | .sliceArr _ _ _ _ _ _ | .append _ _ _ _ | .copy _ _ _ | .ext _ _ => true
  | _ => false
theorem heapless {m : MOp} (h : isHeapy m = false) (g : Opd → AV) (σ : AHeap) : evOp g σ m = (evOp g [] m).map fun p => (p.1, σ) := by
  cases m <;> simp [isHeapy] at h <;> simp only [evOp, Option.map_map, Function.comp_def, Option.map_some, Option.map_none]
  all_goals (repeat' split) <;> simp_all [Option.map_map, Function.comp_def, Option.map_bind]
noncomputable def tLd1 (H : TH) : AV → Option AV
  | .ptr id off => match H.get id with | some c => c[off]? | none => none
  | .iptr cs => cs[0]?
  | _ => none
noncomputable def tLdN (H : TH) (n : Nat) : AV → Option (List AV)
  | .ptr id off => match H.get id with | some c => sub c off n | none => none
  | .iptr cs => sub cs 0 n
  | _ => none
theorem tLd1_eq (H : TH) (a : AV) : tLd1 H a = ldCell H.toL a := by
  cases a <;> simp only [tLd1, ldCell, TH.get_eq]
  case ptr id off => cases hget H.toL id <;> rfl
theorem tLdN_eq (H : TH) (n : Nat) (a : AV) : tLdN H n a = ldCells H.toL n a := by
  cases a <;> simp only [tLdN, ldCells, TH.get_eq]
  case ptr id off => cases hget H.toL id <;> rfl
noncomputable def tStore (n : Nat) (a v : AV) (H : TH) : Option (AV × TH) :=
  match a with
  | .ptr id off => match v.cells? with
    | some cs => bif Nat.beq cs.length n && cs.all (·.isCell) then (match H.get id with | some c => (match Gz.put c off cs with | some r => some (.unk, H.set id r) | none => none) | none => none) else none
    | none => none
  | _ => none
noncomputable def tP (o : Option (List AV)) (H : TH) (f : List AV → AV × TH) : Option (AV × TH) :=
  match o with
  | some cs => some (f cs)
  | none => none
noncomputable def t1 (o : Option AV) (H : TH) : Option (AV × TH) :=
  match o with
  | some v => some (v, H)
  | none => none
noncomputable def tN (o : Option (List AV)) (H : TH) : Option (AV × TH) :=
  match o with
  | some v => some (.agg v, H)
  | none => none
noncomputable def tOfB (o : Option (List UInt8)) (H : TH) : Option (AV × TH) :=
  match o with
  | some s => some (.str s, H)
  | none => none
noncomputable def tSlow (g : Opd → AV) (H : TH) (m : MOp) : Option (AV × TH) :=
  match evK g [] m with
  | some (v, _) => some (v, H)
  | none => none
noncomputable def tMake (zero : List AV) (esz ebytes : Nat) (len cap : AV) (H : TH) : Option (AV × TH) :=
  match len, cap with
  | .int .i64 l, .int .i64 c => if 0 ≤ l ∧ l ≤ c ∧ c ≤ 9223372036854775807 ∧ ebytes * c ≤ 281474976710656 then
      some (.slice H.n 0 l.toNat (some c.toNat) esz, H.push ((List.replicate c.toNat zero).flatten)) else none
  | _, _ => none
noncomputable def tCopy (esz : Nat) (d s : AV) (H : TH) : Option (AV × TH) :=
  match s with
  | .agg z =>
    if z.length = esz ∧ z.all (·.isCell) = true then
      match d with
      | .nilslice => some (.tuple [], H)
      | .slice id off len _ e =>
        if e = esz then
          (match (H.get id).bind (Gz.put · off (List.replicate len z).flatten) with | some cs => some (.tuple [], H.set id cs) | none => none)
        else none
      | _ => none
    else none
  | _ => none
noncomputable def tResame (v : AV) (H : TH) : Option (AV × TH) :=
  match v with
  | .slice id off len cap esz => bif Nat.blt 0 len && (H.get id).isSome then some (.slice id off len cap esz, H) else none
  | _ => none
noncomputable def tToBytes (v : AV) (H : TH) : Option (AV × TH) :=
  match v with
  | .str s => some (tGrown H 1 s.length (s.map byteAV))
  | _ => none
noncomputable def tOfBytes (v : AV) (H : TH) : Option (AV × TH) :=
  match v with
  | .str _ => none
  | x => match tElems H 1 x with
    | some l => tOfB (bytesOf l) H
    | none => none
noncomputable def tSliceArr (n esz : Nat) (x : AV) (lo hi mx : Option AV) (H : TH) : Option (AV × TH) :=
  match x with
  | .ptr id off => match H.get id with
    | some cs => if off + n * esz ≤ cs.length then t1 (evSlice esz (.slice id off n (some n) esz) lo hi mx) H else none
    | none => none
  | _ => none
noncomputable def tBack (o : Option (AV × AHeap)) : Option (AV × TH) :=
  match o with
  | some (v, σ) => some (v, TH.ofL σ)
  | none => none
noncomputable def tMset (kk : FK) (id : Nat) (k v : AV) (H : TH) : Option (AV × TH) :=
  match H.get id with
  | some c => (match minto kk k v c with | some cs => some (.unk, H.set id cs) | none => none)
  | none => none
noncomputable def tLook (kk : FK) (z : AV) (ok : Bool) (id : Nat) (k : AV) (H : TH) : Option (AV × TH) :=
  match baseEq kk k k with
  | some _ => (match H.get id with
    | some c => (match mfind kk k c 0 with | some r => some (found z ok r, H) | none => none)
    | none => none)
  | none => none
noncomputable def tExt (k : ExtK) (xs : List AV) (H : TH) : Option (AV × TH) :=
  match k with
  | .mkMap => (match xs with | [] => some (.map H.n, H.push []) | _ => none)
  | .look kk z ok => (match xs with
    | [.map id, k] => tLook kk z ok id k H
    | xs => tBack (evExt H.toL (.look kk z ok) xs))
  | .mset kk => (match xs with
    | [.map id, k, v] => tMset kk id k v H
    | _ => none)
  | .mlen => (match xs with
    | [.map id] => (match H.get id with | some c => some (.int .i64 (c.length : Int), H) | none => none)
    | xs => tBack (evExt H.toL .mlen xs))
  | k => tBack (evExt H.toL k xs)
theorem tBack_eq (o : Option (AV × AHeap)) : toL2 (tBack o) = o := by
  cases o with
  | none => rfl
  | some p => obtain ⟨v, σ⟩ := p; show some (v, (TH.ofL σ).toL) = _; rw [TH.ofL_eq]
theorem tExt_eq (k : ExtK) (xs : List AV) (H : TH) : toL2 (tExt k xs H) = evExt H.toL k xs := by
  cases k <;> try exact tBack_eq _
  case mkMap =>
    simp only [tExt]
    split
    · simp only [evExt, toL2_some, TH.push_eq, TH.len]
    · rename_i h; unfold evExt; split <;> simp_all <;> rfl
  case look kk z ok =>
    simp only [tExt]
    split
    · rename_i id k
      simp only [evExt, tLook, TH.get_eq]
      cases baseEq kk k k with
      | none => rfl
      | some b =>
        simp only [Option.bind_some]
        cases hget H.toL id with
        | none => rfl
        | some c =>
          simp only [Option.bind_some]
          cases mfind kk k c 0 <;> rfl
    · exact tBack_eq _
  case mset kk =>
    simp only [tExt]
    split
    · rename_i id k v
      simp only [evExt, tMset, TH.get_eq]
      cases hget H.toL id with
      | none => rfl
      | some c =>
        simp only [Option.bind_some]
        cases minto kk k v c with
        | none => rfl
        | some cs => simp only [toL2_some, TH.set_eq, Option.map_some]
    · rename_i h; unfold evExt; split <;> simp_all <;> rfl
  case mlen =>
    simp only [tExt]
    split
    · rename_i id
      simp only [evExt, TH.get_eq]
      cases hget H.toL id <;> rfl
    · exact tBack_eq _
noncomputable def evT (g : Opd → AV) (H : TH) (m : MOp) : Option (AV × TH) :=
  match m with
  | .move x => some (g x, H)
  | .alloc zero => some (.ptr H.n 0, H.push zero)
  | .box x => tP (g x).cells? H fun cs => (.ptr H.n 0, H.push cs)
  | .buildSlice zero esz len parts => tP (fillParts ((List.replicate len zero).flatten) (parts.map fun (o, s, x) => (o, s, g x))) H fun cs => (.slice H.n 0 len (some len) esz, H.push cs)
  | .load1 a => t1 (tLd1 H (g a)) H
  | .loadN n a => tN (tLdN H n (g a)) H
  | .store n a x => tStore n (g a) (g x) H
  | .resame x => tResame (g x) H
  | .toBytes x => tToBytes (g x) H
  | .ofBytes x => tOfBytes (g x) H
  | .makeSlice zero esz ebytes len cap => tMake zero esz ebytes (g len) (g cap) H
  | .sliceArr n esz x lo hi mx => tSliceArr n esz (g x) (lo.map g) (hi.map g) (mx.map g) H
  | .append esz ebytes s x => tAppend esz ebytes (g s) (g x) H
  | .copy esz d s => tCopy esz (g d) (g s) H
  | .ext k xs => tExt k (xs.map g) H
  | m => tSlow g H m
theorem evT_eq (g : Opd → AV) (H : TH) (m : MOp) : toL2 (evT g H m) = evOp g H.toL m := by
  have slow : isHeapy m = false → toL2 (tSlow g H m) = evOp g H.toL m := by
    intro h
    rw [heapless h]
    unfold tSlow
    rw [evK_eq]
    cases evOp g [] m with
    | none => rfl
    | some p => rfl
  cases m <;> first
    | exact slow rfl
    | skip
  case alloc z => simp only [evT, evOp, toL2_some, TH.push_eq, TH.len]
  case box x =>
    simp only [evT, evOp, TH.len, tP]
    cases (g x).cells? with
    | none => rfl
    | some cs => simp only [toL2_some, TH.push_eq, Option.map_some]
  case buildSlice z e l ps =>
    simp only [evT, evOp, TH.len, tP]
    cases fillParts ((List.replicate l z).flatten) (ps.map fun (o, s, x) => (o, s, g x)) with
    | none => rfl
    | some cs => simp only [toL2_some, TH.push_eq, Option.map_some]
  case load1 a =>
    simp only [evT, evOp, tLd1_eq, t1]
    cases ldCell H.toL (g a) <;> rfl
  case loadN n a =>
    simp only [evT, evOp, tLdN_eq, tN]
    cases ldCells H.toL n (g a) <;> rfl
  case store n a x =>
    simp only [evT, evOp]
    generalize g a = u
    unfold tStore
    generalize (g x).cells? = o
    cases u <;> try rfl
    rename_i id off
    cases o with
    | none => rfl
    | some cs =>
      simp only [TH.get_eq]
      by_cases h : cs.length = n ∧ cs.all (·.isCell) = true
      · rw [if_pos h]
        have : (Nat.beq cs.length n && cs.all (·.isCell)) = true := by simp [h.1, h.2]
        rw [this]
        simp only [cond_true]
        cases hget H.toL id with
        | none => rfl
        | some c =>
          simp only [Option.bind_some]
          cases Gz.put c off cs with
          | none => rfl
          | some r => simp only [toL2_some, TH.set_eq, Option.map_some]
      · rw [if_neg h]
        have : (Nat.beq cs.length n && cs.all (·.isCell)) = false := by
          rw [Bool.eq_false_iff]; intro hh; rw [Bool.and_eq_true] at hh; exact h ⟨Nat.eq_of_beq_eq_true hh.1, hh.2⟩
        rw [this]; rfl
  case resame x =>
    simp only [evT, evOp]
    generalize g x = u
    cases u <;> try rfl
    rename_i id off len cap esz
    simp only [tResame, TH.get_eq]
    by_cases h : 0 < len ∧ (hget H.toL id).isSome = true
    · rw [if_pos h]
      have : (Nat.blt 0 len && (hget H.toL id).isSome) = true := by simp [Nat.blt_eq, h.1, h.2]
      rw [this]; rfl
    · rw [if_neg h]
      have : (Nat.blt 0 len && (hget H.toL id).isSome) = false := by
        rw [Bool.eq_false_iff]; intro hh; rw [Bool.and_eq_true, Nat.blt_eq] at hh; exact h hh
      rw [this]; rfl
  case toBytes x =>
    simp only [evT, evOp]
    generalize g x = u
    cases u <;> try rfl
    exact toL2_grown _ _ _ _
  case ofBytes x =>
    simp only [evT, evOp]
    generalize g x = u
    cases u <;> simp only [tOfBytes, Gz.ofBytes, tElems_eq] <;> try rfl
    all_goals (generalize elemsOf H.toL 1 _ = o; cases o <;> try rfl)
    all_goals (rename_i l; simp only [Option.bind_some, tOfB]; cases bytesOf l <;> rfl)
  case makeSlice z e b l c =>
    simp only [evT, evOp]
    generalize g l = u
    generalize g c = w
    cases u <;> try rfl
    rename_i k n
    cases k <;> try rfl
    cases w <;> try rfl
    rename_i k' n'
    cases k' <;> try rfl
    simp only [tMake]
    split <;> first | rfl | simp only [toL2_some, TH.push_eq, TH.len]
  case sliceArr n e x lo hi mx =>
    simp only [evT, evOp]
    generalize g x = u
    cases u <;> try rfl
    simp only [tSliceArr, TH.get_eq]
    rename_i id off
    cases hget H.toL id with
    | none => rfl
    | some cs =>
      simp only
      split
      · simp only [t1]
        cases evSlice e (.slice id off n (some n) e) (lo.map g) (hi.map g) (mx.map g) <;> rfl
      · rfl
  case append e b s x => exact tAppend_eq _ _ _ _ _
  case ext k xs => exact tExt_eq _ _ _
  case copy e d s =>
    simp only [evT, evOp, tCopy, evCopy]
    generalize g s = v
    cases v <;> try rfl
    rename_i z
    simp only
    split
    · generalize g d = u
      cases u <;> try rfl
      rename_i id off len cap e'
      simp only [TH.get_eq]
      split
      · generalize (hget H.toL id).bind (Gz.put · off (List.replicate len z).flatten) = o
        cases o with
        | none => rfl
        | some cs => simp only [toL2_some, TH.set_eq, Option.map_some]
      · rfl
    · rfl
/-! The machine. -/
abbrev XCall := FuncId → List AV → TH → (AV → TH → Bool) → Bool
noncomputable def xEv (o : Option (AV × TH)) (K : AV → TH → Bool) : Bool :=
  match o with
  | some (v, H) => K v H
  | none => false
noncomputable def xOp (call : XCall) (m : MOp) (T : TEnv) (H : TH) (K : AV → TH → Bool) : Bool :=
  match m with
  | .call f args => call f (args.map (Opd.ev T.get)) H K
  | .callv f args => match f.ev T.get with
    | .func g caps => call g (args.map (Opd.ev T.get) ++ caps) H K
    | _ => false
  | m => xEv (evT (Opd.ev T.get) H m) K
noncomputable def xG (call : XCall) (o : MOper) (T : TEnv) (H : TH) (K : AV → TH → Bool) (skip : Unit → Bool) : Bool :=
  match o.guard with
  | none => xOp call o.op T H K
  | some (t, want) => match guardVal (T.get t) with
    | some (some b) => if b = want then xOp call o.op T H K else skip ()
    | some none => skip ()
    | none => false
noncomputable def xOps (call : XCall) (K : TEnv → TH → Bool) (ops : List MOper) : TEnv → TH → Bool :=
  List.rec (motive := fun _ => TEnv → TH → Bool) (fun T H => K T H) (fun o _ ih T H => xG call o T H (fun v H' => ih (tput T o.dst v) H') (fun _ => ih (tput T o.dst .und) H)) ops
noncomputable def xTree (call : XCall) (ops : List MOper) (K : TEnv → TH → Bool) (t : DTree) : TEnv → TH → Bool :=
  DTree.rec (motive := fun _ => TEnv → TH → Bool) (fun T H => K T H) (fun _ _ => true)
    (fun i _ ih T H => match ops[i]? with
      | none => false
      | some o => xG call o T H (fun v H' => ih (tput T o.dst v) H') (fun _ => ih (tput T o.dst .und) H))
    (fun _ _ _ _ _ _ _ _ => false) t
noncomputable def xLoop (body : (MExit → TEnv → TH → Bool) → TEnv → TH → Bool) (Q : MExit → TEnv → TH → Bool) (n : Nat) : TEnv → TH → Bool :=
  Nat.rec (motive := fun _ => TEnv → TH → Bool) (fun _ _ => false) (fun _ ih T H => body (fun x T' H' => MExit.rec (motive := fun _ => Bool) (ih T' H') (fun i => Q (.exit i) T' H') (Q .ret T' H') x) T H) n
noncomputable def xTreeC (call : XCall) (ops : List MOper) (K : TEnv → TH → Bool) (t : DTree) : List Pend → TEnv → TH → Bool :=
  DTree.rec (motive := fun _ => List Pend → TEnv → TH → Bool) (fun _ T H => K T H) (fun _ _ _ => true)
    (fun i _ ih ps T H => match ops[i]? with
      | none => false
      | some o => xG call o T H (fun v H' => ih (if isRead o.op then ⟨i, fixOp T.get o.op, v⟩ :: ps else ps) (tput T o.dst v) H') (fun _ => ih ps (tput T o.dst .und) H))
    (fun i again _ _ ih ih2 ps T H => (match ops[i]? with
      | none => false
      | some o => xG call o T H (fun v H' => (ps.all fun p => !again.contains p.i || (match evT (Opd.ev fun _ => .unk) H' p.op with | some (x, _) => AV.same x p.v | none => false)) && ih ps (tput T o.dst v) H') (fun _ => ih ps (tput T o.dst .und) H)) && ih2 ps T H) t
abbrev XQ := MExit → TEnv → TH → Bool
noncomputable def xC (call : XCall) (L : Nat) (m : MCode) : XQ → TEnv → TH → Bool :=
  MCode.rec (motive := fun _ => XQ → TEnv → TH → Bool)
    (fun Q T H => Q .normal T H)
    (fun ops Q T H => xOps call (Q .normal) ops T H)
    (fun ops t Q T H => bif quietTree t then xTree call ops (Q .normal) t T H else xTreeC call ops (Q .normal) t [] T H)
    (fun _ _ ia ib Q T H => ia (fun x T' H' => MExit.rec (motive := fun _ => Bool) (ib Q T' H') (fun i => Q (.exit i) T' H') (Q .ret T' H') x) T H)
    (fun c _ _ ia ib Q T H => match c.ev T.get with
      | .bool t => Bool.rec (ib Q T H) (ia Q T H) t
      | _ => false)
    (fun id _ ia Q T H => ia (fun x T' H' => MExit.rec (motive := fun _ => Bool) (Q .normal T' H') (fun i => Bool.rec (Q (.exit i) T' H') (Q .normal T' H') (Nat.beq i id)) (Q .ret T' H') x) T H)
    (fun _ ia Q T H => xLoop ia Q L T H)
    (fun id Q T H => Q (.exit id) T H)
    (fun Q T H => Q .ret T H) m
noncomputable def xRes (T : TEnv) (H : TH) : MRes → Option AV
  | .t t => some (T.get t)
  | .c1 a => tLd1 H (T.get a)
  | .cN a n => match tLdN H n (T.get a) with | some c => some (.agg c) | none => none
noncomputable def xVals (T : TEnv) (H : TH) : List MRes → Option (List AV)
  | [] => some []
  | r :: rs => match xRes T H r, xVals T H rs with
    | some v, some vs => some (v :: vs)
    | _, _ => none
noncomputable def xRet (rs : List MRes) (K : AV → TH → Bool) : XQ := fun x T H =>
  match x with
  | .exit _ => false
  | _ => match xVals T H rs with
    | some vs => K (retOf vs) H
    | none => false
noncomputable def xF (F : FuncId → Option MFunc) (L : Nat) (n : Nat) : XCall :=
  Nat.rec (motive := fun _ => XCall) (fun _ _ _ _ => false) (fun _ ih f args H K =>
    match F f with
    | some mf => Nat.ble args.length mf.n && xC ih L mf.body (xRet mf.results K) (Tr.full (Nat.succ (Nat.log2 mf.n)) (argEnv args)) H
    | none => false) n
/-! It is the machine of K20. -/
section
variable {call : BCall} {xcall : XCall}
def SameCall (xcall : XCall) (call : BCall) : Prop := ∀ f args H K' K, (∀ v H, K' v H = K v H.toL) → xcall f args H K' = call f args H.toL K
theorem xEv_eq {o : Option (AV × TH)} {K' : AV → TH → Bool} {K : AV → AHeap → Bool} (hk : ∀ v H, K' v H = K v H.toL) : xEv o K' = bEv (toL2 o) K := by
  cases o with
  | none => rfl
  | some p => exact hk _ _
theorem xOp_eq (hc : SameCall xcall call) {m : MOp} {T : TEnv} {H : TH} {K' : AV → TH → Bool} {K : AV → AHeap → Bool} (hk : ∀ v H, K' v H = K v H.toL) : xOp xcall m T H K' = bOp call m T.get H.toL K := by
  cases m <;> simp only [xOp, bOp] <;> first
    | exact hc _ _ _ _ _ hk
    | (rw [xEv_eq hk, evT_eq, evK_eq])
    | skip
  case callv f args =>
    cases f.ev T.get <;> first | rfl | exact hc _ _ _ _ _ hk
theorem xG_eq (hc : SameCall xcall call) {o : MOper} {T : TEnv} {H : TH} {K' : AV → TH → Bool} {K : AV → AHeap → Bool} {s' s : Unit → Bool} (hk : ∀ v H, K' v H = K v H.toL) (hs : s' () = s ()) : xG xcall o T H K' s' = bG call o T.get H.toL K s := by
  unfold xG bG
  rw [xOp_eq hc hk, hs]
  rfl
theorem xOps_eq (hc : SameCall xcall call) {K' : TEnv → TH → Bool} {K : Env → AHeap → Bool} (hk : ∀ T H, K' T H = K T.get H.toL) : ∀ (ops : List MOper) (T : TEnv) (H : TH), xOps xcall K' ops T H = bOps call K ops T.get H.toL
  | [], T, H => hk T H
  | o :: os, T, H => by
    show xG xcall o T H (fun v H' => xOps xcall K' os (tput T o.dst v) H') (fun _ => xOps xcall K' os (tput T o.dst .und) H) = _
    unfold bOps
    refine xG_eq hc (fun v H' => ?_) ?_
    · rw [xOps_eq hc hk os, tput_eq]
    · rw [xOps_eq hc hk os, tput_eq]
theorem xTree_eq (hc : SameCall xcall call) {ops : List MOper} {K' : TEnv → TH → Bool} {K : Env → AHeap → Bool} (hk : ∀ T H, K' T H = K T.get H.toL) : ∀ (t : DTree) (T : TEnv) (H : TH), xTree xcall ops K' t T H = bTree call ops K t T.get H.toL
  | .leaf, T, H => hk T H
  | .stop, T, H => rfl
  | .quiet i t, T, H => by
    show (match ops[i]? with | none => false | some o => xG xcall o T H (fun v H' => xTree xcall ops K' t (tput T o.dst v) H') (fun _ => xTree xcall ops K' t (tput T o.dst .und) H)) = _
    unfold bTree
    cases ops[i]? with
    | none => rfl
    | some o =>
      refine xG_eq hc (fun v H' => ?_) ?_
      · rw [xTree_eq hc hk t, tput_eq]
      · rw [xTree_eq hc hk t, tput_eq]
  | .loud _ _ _ _, T, H => rfl
theorem same_read (H : TH) (v : AV) (m : MOp) : (match evT (Opd.ev fun _ => .unk) H m with | some (x, _) => AV.same x v | none => false) = sameRead H.toL v m := by
  unfold sameRead
  rw [← evT_eq]
  cases evT (Opd.ev fun _ => .unk) H m <;> rfl
theorem xTreeC_eq (hc : SameCall xcall call) {ops : List MOper} {K' : TEnv → TH → Bool} {K : Env → AHeap → Bool} (hk : ∀ T H, K' T H = K T.get H.toL) : ∀ (t : DTree) (ps : List Pend) (T : TEnv) (H : TH), xTreeC xcall ops K' t ps T H = bTreeC call ops K t ps T.get H.toL
  | .leaf, ps, T, H => hk T H
  | .stop, ps, T, H => rfl
  | .quiet i t, ps, T, H => by
    show (match ops[i]? with | none => false | some o => xG xcall o T H (fun v H' => xTreeC xcall ops K' t (if isRead o.op then ⟨i, fixOp T.get o.op, v⟩ :: ps else ps) (tput T o.dst v) H') (fun _ => xTreeC xcall ops K' t ps (tput T o.dst .und) H)) = _
    unfold bTreeC
    cases ops[i]? with
    | none => rfl
    | some o =>
      refine xG_eq hc (fun v H' => ?_) ?_
      · rw [xTreeC_eq hc hk t, tput_eq]
      · rw [xTreeC_eq hc hk t, tput_eq]
  | .loud i again t other, ps, T, H => by
    show ((match ops[i]? with | none => false | some o => xG xcall o T H (fun v H' => (ps.all fun p => !again.contains p.i || (match evT (Opd.ev fun _ => .unk) H' p.op with | some (x, _) => AV.same x p.v | none => false)) && xTreeC xcall ops K' t ps (tput T o.dst v) H') (fun _ => xTreeC xcall ops K' t ps (tput T o.dst .und) H)) && xTreeC xcall ops K' other ps T H) = _
    unfold bTreeC
    rw [xTreeC_eq hc hk other]
    congr 1
    cases ops[i]? with
    | none => rfl
    | some o =>
      refine xG_eq hc (fun v H' => ?_) ?_
      · simp only [same_read]
        rw [xTreeC_eq hc hk t, tput_eq]
      · rw [xTreeC_eq hc hk t, tput_eq]
theorem xLoop_eq {xb : XQ → TEnv → TH → Bool} {b : (MExit → Env → AHeap → Bool) → Env → AHeap → Bool} (hb : ∀ Q' Q, (∀ x T H, Q' x T H = Q x T.get H.toL) → ∀ T H, xb Q' T H = b Q T.get H.toL)
    {Q' : XQ} {Q : MExit → Env → AHeap → Bool} (hq : ∀ x T H, Q' x T H = Q x T.get H.toL) : ∀ (n : Nat) (T : TEnv) (H : TH), xLoop xb Q' n T H = bLoop b Q n T.get H.toL
  | 0, T, H => rfl
  | n + 1, T, H => by
    show xb (fun x T' H' => MExit.rec (motive := fun _ => Bool) (xLoop xb Q' n T' H') (fun i => Q' (.exit i) T' H') (Q' .ret T' H') x) T H = _
    unfold bLoop
    refine hb _ _ (fun x T' H' => ?_) T H
    cases x with
    | normal => exact xLoop_eq hb hq n T' H'
    | exit i => exact hq _ _ _
    | ret => exact hq _ _ _
theorem xC_eq (hc : SameCall xcall call) {L : Nat} : ∀ (m : MCode) {Q' : XQ} {Q : MExit → Env → AHeap → Bool}, (∀ x T H, Q' x T H = Q x T.get H.toL) → ∀ (T : TEnv) (H : TH), xC xcall L m Q' T H = bC call L m Q T.get H.toL
  | .skip, Q', Q, hq, T, H => hq _ _ _
  | .region ops, Q', Q, hq, T, H => xOps_eq hc (fun T H => hq _ T H) ops T H
  | .draw ops t, Q', Q, hq, T, H => by
    show (bif quietTree t then xTree xcall ops (Q' .normal) t T H else xTreeC xcall ops (Q' .normal) t [] T H) = _
    unfold bC
    cases quietTree t with
    | true => simp only [cond_true, if_true]; exact xTree_eq hc (fun T H => hq _ T H) t T H
    | false => simp only [cond_false, Bool.false_eq_true, if_false]; exact xTreeC_eq hc (fun T H => hq _ T H) t [] T H
  | .seq a b, Q', Q, hq, T, H => by
    show xC xcall L a (fun x T' H' => MExit.rec (motive := fun _ => Bool) (xC xcall L b Q' T' H') (fun i => Q' (.exit i) T' H') (Q' .ret T' H') x) T H = _
    unfold bC
    refine xC_eq hc a (fun x T' H' => ?_) T H
    cases x with
    | normal => exact xC_eq hc b hq T' H'
    | exit i => exact hq _ _ _
    | ret => exact hq _ _ _
  | .cond c a b, Q', Q, hq, T, H => by
    show (match c.ev T.get with | .bool t => @Bool.rec (fun _ => Bool) (xC xcall L b Q' T H) (xC xcall L a Q' T H) t | _ => false) = _
    unfold bC
    cases c.ev T.get <;> try rfl
    rename_i t
    cases t
    · simp only [Bool.false_eq_true, if_false]; exact xC_eq hc b hq T H
    · simp only [if_true]; exact xC_eq hc a hq T H
  | .block id a, Q', Q, hq, T, H => by
    show xC xcall L a (fun x T' H' => MExit.rec (motive := fun _ => Bool) (Q' .normal T' H') (fun i => @Bool.rec (fun _ => Bool) (Q' (.exit i) T' H') (Q' .normal T' H') (Nat.beq i id)) (Q' .ret T' H') x) T H = _
    unfold bC
    refine xC_eq hc a (fun x T' H' => ?_) T H
    cases x with
    | normal => exact hq _ _ _
    | exit i =>
      simp only [brec, Nat.beq_eq]
      split <;> exact hq _ _ _
    | ret => exact hq _ _ _
  | .loop a, Q', Q, hq, T, H => by
    show xLoop (xC xcall L a) Q' L T H = _
    unfold bC
    exact xLoop_eq (fun Q' Q hq T H => xC_eq hc a hq T H) hq L T H
  | .exit id, Q', Q, hq, T, H => hq _ _ _
  | .ret, Q', Q, hq, T, H => hq _ _ _
theorem xRes_eq (T : TEnv) (H : TH) (r : MRes) : xRes T H r = resVal T.get H.toL r := by
  cases r with
  | t n => rfl
  | c1 a => exact tLd1_eq _ _
  | cN a n =>
    simp only [xRes, resVal, tLdN_eq]
    cases ldCells H.toL n (T.get a) <;> rfl
theorem xVals_eq (T : TEnv) (H : TH) : ∀ rs, xVals T H rs = resVals T.get H.toL rs
  | [] => rfl
  | r :: rs => by
    unfold xVals resVals
    rw [xRes_eq, xVals_eq T H rs]
    rfl
theorem xRet_eq {rs : List MRes} {K' : AV → TH → Bool} {K : AV → AHeap → Bool} (hk : ∀ v H, K' v H = K v H.toL) (x : MExit) (T : TEnv) (H : TH) : xRet rs K' x T H = bRet rs K x T.get H.toL := by
  cases x <;> simp only [xRet, bRet, xVals_eq]
  all_goals (cases resVals T.get H.toL rs <;> first | rfl | exact hk _ _)
theorem xF_eq (F : FuncId → Option MFunc) (L : Nat) : ∀ n, SameCall (xF F L n) (bF F L n)
  | 0 => fun _ _ _ _ _ _ => rfl
  | n + 1 => fun f args H K' K hk => by
    show (match F f with
      | some mf => Nat.ble args.length mf.n && xC (xF F L n) L mf.body (xRet mf.results K') (Tr.full (Nat.succ (Nat.log2 mf.n)) (argEnv args)) H
      | none => false) = _
    unfold bF
    cases F f with
    | none => rfl
    | some mf =>
      simp only
      rw [xC_eq (xF_eq F L n) mf.body (fun x T H => xRet_eq hk x T H)]
      rw [show (Tr.full (Nat.succ (Nat.log2 mf.n)) (argEnv args)).get = argEnv args from funext fun k => Tr.get_full _ _ k]
end
noncomputable def TH.new : TH := ⟨0, Tr.full 11 fun _ => none⟩
theorem TH.new_eq : TH.new.toL = [] := rfl
theorem Tri.runX {P : Program} {f : FuncId} {args : List AV} (L n : Nat) (K : AV → Bool) (h : xF (cFn P) L n f args TH.new (fun v _ => K v) = true) : Tri P f args [] fun r _ => K r = true := by
  refine Tri.run L n (fun v _ => K v) ?_
  rw [← TH.new_eq, ← xF_eq (cFn P) L n f args TH.new (fun v _ => K v) (fun v _ => K v) (fun v H => rfl)]
  exact h
end Go.Gz
