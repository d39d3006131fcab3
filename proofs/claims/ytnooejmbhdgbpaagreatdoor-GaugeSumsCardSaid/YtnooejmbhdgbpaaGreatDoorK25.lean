/- What the operations come to, as rules for rewriting. -/
import Derived.Test.YtnooejmbhdgbpaaGreatDoorK24
import Derived.Laws.BitsLemmas
set_option linter.unusedVariables false
set_option linter.unusedSimpArgs false
namespace Go.Gz
section
variable {e : Env} {σ : AHeap} {q : EqK} {k k' : IntKind} {a b : Int} {x y : List UInt8}
theorem ev_t {n : Nat} : Opd.ev e (.t n) = e n := _root_.id rfl
theorem ev_c {v : AV} : Opd.ev e (.c v) = v := _root_.id rfl
theorem argEnv_nil {n : Nat} : argEnv [] n = .unk := _root_.id rfl
theorem argEnv_cons {v : AV} {l : List AV} {n : Nat} : argEnv (v :: l) n = if n = 0 then v else argEnv l (n - 1) := by cases n <;> rfl
theorem envL_nil {n : Nat} : envL [] n = .unk := _root_.id rfl
theorem envL_cons {t n : Nat} {v : AV} {l : List (Nat × AV)} : envL ((t, v) :: l) n = if n = t then v else envL l n := _root_.id rfl
theorem abin_add : abin .add q (.int k a) (.int k b) = some (.int k (k.wrap (a + b))) := by simp [abin, intBin]
theorem abin_sub : abin .sub q (.int k a) (.int k b) = some (.int k (k.wrap (a - b))) := by simp [abin, intBin]
theorem abin_mul : abin .mul q (.int k a) (.int k b) = some (.int k (k.wrap (a * b))) := by simp [abin, intBin]
theorem abin_quo : abin .quo q (.int k a) (.int k b) = if b = 0 then none else some (.int k (k.wrap (a.tdiv b))) := by simp [abin, intBin]
theorem abin_rem : abin .rem q (.int k a) (.int k b) = if b = 0 then none else some (.int k (a.tmod b)) := by simp [abin, intBin]
theorem abin_eql : abin .eql q (.int k a) (.int k b) = some (.bool (decide (a = b))) := by simp [abin, intBin]; rfl
theorem abin_neq : abin .neq q (.int k a) (.int k b) = some (.bool (decide (a ≠ b))) := by simp [abin, intBin]; by_cases h : a = b <;> simp [h]
theorem abin_lss : abin .lss q (.int k a) (.int k b) = some (.bool (decide (a < b))) := by simp [abin, intBin]
theorem abin_leq : abin .leq q (.int k a) (.int k b) = some (.bool (decide (a ≤ b))) := by simp [abin, intBin]
theorem abin_gtr : abin .gtr q (.int k a) (.int k b) = some (.bool (decide (b < a))) := by simp [abin, intBin]
theorem abin_geq : abin .geq q (.int k a) (.int k b) = some (.bool (decide (b ≤ a))) := by simp [abin, intBin]
theorem abin_shl : abin .shl q (.int k a) (.int k' b) = if b < 0 then none else some (.int k (k.wrap (a * 2 ^ (min b.toNat k.bits)))) := by simp [abin, shiftBin]
theorem abin_shr : abin .shr q (.int k a) (.int k' b) = if b < 0 then none else some (.int k (a.fdiv (2 ^ (min b.toNat k.bits)))) := by simp [abin, shiftBin]
theorem abin_sadd : abin .add q (.str x) (.str y) = if x.length + y.length ≤ maxInt then some (.str (x ++ y)) else none := _root_.id rfl
theorem abin_seql : abin .eql q (.str x) (.str y) = some (.bool (decide (x = y))) := by
  show some (AV.bool (x == y)) = _
  by_cases h : x = y <;> simp [h]
theorem abin_sneq : abin .neq q (.str x) (.str y) = some (.bool (decide (x ≠ y))) := by
  show some (AV.bool (!(x == y))) = _
  by_cases h : x = y <;> simp [h]
theorem abin_slss : abin .lss q (.str x) (.str y) = some (.bool (lessBytes x y)) := _root_.id rfl
theorem abin_sleq : abin .leq q (.str x) (.str y) = some (.bool (lessBytes x y || x == y)) := _root_.id rfl
theorem abin_sgtr : abin .gtr q (.str x) (.str y) = some (.bool (!(lessBytes x y || x == y))) := _root_.id rfl
theorem abin_sgeq : abin .geq q (.str x) (.str y) = some (.bool (!(lessBytes x y))) := _root_.id rfl
theorem abin_beql {p r : Bool} : abin .eql .bool (.bool p) (.bool r) = some (.bool (p == r)) := _root_.id rfl
theorem abin_bneq {p r : Bool} : abin .neq .bool (.bool p) (.bool r) = some (.bool (!(p == r))) := _root_.id rfl
theorem abin_p1 {i o : Nat} : abin .eql .nilp (.ptr i o) .nilptr = some (.bool false) := _root_.id rfl
theorem abin_p2 {i o : Nat} : abin .neq .nilp (.ptr i o) .nilptr = some (.bool true) := _root_.id rfl
theorem abin_p3 : abin .eql .nilp .nilptr .nilptr = some (.bool true) := _root_.id rfl
theorem abin_p4 : abin .neq .nilp .nilptr .nilptr = some (.bool false) := _root_.id rfl
theorem abin_p5 {c : List AV} : abin .eql .nilp (.iptr c) .nilptr = some (.bool false) := _root_.id rfl
theorem abin_p6 {c : List AV} : abin .neq .nilp (.iptr c) .nilptr = some (.bool true) := _root_.id rfl
theorem abin_s3 : abin .eql .nils .nilslice .nilslice = some (.bool true) := _root_.id rfl
theorem abin_s4 : abin .neq .nils .nilslice .nilslice = some (.bool false) := _root_.id rfl
theorem abin_s5 {i o l s : Nat} {c : Option Nat} : abin .eql .nils (.slice i o l c s) .nilslice = if 0 < l then some (.bool false) else none := by
  show (if 0 < l then some false else none).map AV.bool = _
  split <;> rfl
theorem abin_s6 {i o l s : Nat} {c : Option Nat} : abin .neq .nils (.slice i o l c s) .nilslice = if 0 < l then some (.bool true) else none := by
  show (if 0 < l then some false else none).map (fun b => AV.bool (!b)) = _
  split <;> rfl
theorem abin_f1 {f : FuncId} {c : List AV} : abin .eql .nilf (.func f c) .nilfunc = some (.bool false) := _root_.id rfl
theorem abin_f2 {f : FuncId} {c : List AV} : abin .neq .nilf (.func f c) .nilfunc = some (.bool true) := _root_.id rfl
theorem abin_f3 : abin .eql .nilf .nilfunc .nilfunc = some (.bool true) := _root_.id rfl
theorem abin_i1 : abin .eql .nili .nilif .nilif = some (.bool true) := _root_.id rfl
theorem abin_i2 : abin .neq .nili .nilif .nilif = some (.bool false) := _root_.id rfl
theorem abin_i3 : abin .eql .nili .someif .nilif = some (.bool false) := _root_.id rfl
theorem abin_i4 : abin .neq .nili .someif .nilif = some (.bool true) := _root_.id rfl
theorem abin_f4 : abin .neq .nilf .nilfunc .nilfunc = some (.bool false) := _root_.id rfl
theorem abin_feq {ks : List FK} {xs ys : List AV} : abin .eql (.flat ks) (.agg xs) (.agg ys) = (cellsEq ks xs ys).map .bool := _root_.id rfl
theorem abin_fne {ks : List FK} {xs ys : List AV} : abin .neq (.flat ks) (.agg xs) (.agg ys) = (cellsEq ks xs ys).map fun b => .bool (!b) := _root_.id rfl
theorem cellsEq_nil : cellsEq [] [] [] = some true := _root_.id rfl
theorem cellsEq_s {ks : List FK} {xs ys : List AV} : cellsEq (.s :: ks) (.str x :: xs) (.str y :: ys) = (cellsEq ks xs ys).map fun r => decide (x = y) && r := by
  simp only [cellsEq, baseEq]
  cases cellsEq ks xs ys with
  | none => rfl
  | some r => simp; by_cases h : x = y <;> simp [h]
theorem cellsEq_i {ks : List FK} {xs ys : List AV} : cellsEq (.i :: ks) (.int k a :: xs) (.int k b :: ys) = (cellsEq ks xs ys).map fun r => decide (a = b) && r := by
  simp only [cellsEq, baseEq]
  cases cellsEq ks xs ys with
  | none => simp
  | some r => simp; by_cases h : a = b <;> simp [h]
theorem cellsEq_b {p r : Bool} {ks : List FK} {xs ys : List AV} : cellsEq (.b :: ks) (.bool p :: xs) (.bool r :: ys) = (cellsEq ks xs ys).map fun t => (p == r) && t := by
  simp only [cellsEq, baseEq]
  cases cellsEq ks xs ys with
  | none => rfl
  | some r => simp
theorem aun_not {p : Bool} : aun .not (.bool p) = some (.bool !p) := _root_.id rfl
theorem aun_neg : aun .neg (.int k a) = some (.int k (k.wrap (0 - a))) := _root_.id rfl
theorem wrap64 {z : Int} (h : -9223372036854775808 ≤ z ∧ z < 9223372036854775808) : IntKind.wrap .i64 z = z := by
  rw [IntKind.wrap_i64]; omega
theorem hget_nil {n : Nat} : hget [] n = none := _root_.id rfl
theorem hget_cons {b : Option (List AV)} {l : AHeap} {n : Nat} : hget (b :: l) n = if n = 0 then b else hget l (n - 1) := by cases n <;> cases b <;> rfl
theorem hset_cons {b : Option (List AV)} {l : AHeap} {n : Nat} {c : List AV} : hset (b :: l) n c = if n = 0 then some c :: l else b :: hset l (n - 1) c := by cases n <;> rfl
theorem hkill_cons {b : Option (List AV)} {l : AHeap} {n : Nat} : hkill (b :: l) n = if n = 0 then none :: l else b :: hkill l (n - 1) := by cases n <;> rfl
theorem hpush_nil {c : List AV} : hpush [] c = [some c] := _root_.id rfl
theorem hpush_cons {b : Option (List AV)} {l : AHeap} {c : List AV} : hpush (b :: l) c = b :: hpush l c := _root_.id rfl
theorem idx_nil {α : Type} {n : Nat} : ([] : List α)[n]? = none := _root_.id rfl
theorem idx_cons {α : Type} {v : α} {l : List α} {n : Nat} : (v :: l)[n]? = if n = 0 then some v else l[n - 1]? := by cases n <;> rfl
theorem sub_zero {cs : List AV} {n : Nat} : sub cs 0 n = if n ≤ cs.length then some (cs.take n) else none := by simp [sub]
theorem sub_cons {v : AV} {l : List AV} {o n : Nat} : sub (v :: l) o n = if o = 0 then (if n ≤ l.length + 1 then some ((v :: l).take n) else none) else sub l (o - 1) n := by
  cases o with
  | zero => simp [sub]
  | succ o => simp only [sub, List.length_cons, List.drop_succ_cons]; simp; congr 1; simp; omega
theorem take_cons {v : AV} {l : List AV} {n : Nat} : (v :: l).take n = if n = 0 then [] else v :: l.take (n - 1) := by cases n <;> rfl
theorem take_nil' {n : Nat} : ([] : List AV).take n = [] := by simp
theorem put_cons {v : AV} {l xs : List AV} {o : Nat} : put (v :: l) o xs = if o = 0 then (if xs.length ≤ l.length + 1 then some (xs ++ (v :: l).drop xs.length) else none) else (put l (o - 1) xs).map (v :: ·) := by
  cases o with
  | zero => simp [put]
  | succ o =>
    simp only [put, List.length_cons, Nat.succ_ne_zero, if_false, Nat.add_sub_cancel]
    by_cases h : o + xs.length ≤ l.length
    · rw [if_pos (by omega), if_pos h]
      have e1 : o + 1 + xs.length = o + xs.length + 1 := by omega
      simp [e1]
    · rw [if_neg (by omega), if_neg h]; rfl
theorem drop_cons {v : AV} {l : List AV} {n : Nat} : (v :: l).drop n = if n = 0 then v :: l else l.drop (n - 1) := by cases n <;> rfl
theorem cells_agg {l : List AV} : (AV.agg l).cells? = some l := _root_.id rfl
theorem cells_str : (AV.str x).cells? = some [.str x] := _root_.id rfl
theorem cells_int : (AV.int k a).cells? = some [.int k a] := _root_.id rfl
theorem cells_bool {p : Bool} : (AV.bool p).cells? = some [.bool p] := _root_.id rfl
theorem cells_ptr {i o : Nat} : (AV.ptr i o).cells? = some [.ptr i o] := _root_.id rfl
theorem cells_nilptr : AV.nilptr.cells? = some [.nilptr] := _root_.id rfl
theorem cells_nilslice : AV.nilslice.cells? = some [.nilslice] := _root_.id rfl
theorem cells_slice {i o l s : Nat} {c : Option Nat} : (AV.slice i o l c s).cells? = some [.slice i o l c s] := _root_.id rfl
theorem cells_imm {r : List (List AV)} {f n : Bool} : (AV.imm r f n).cells? = some [.imm r f n] := _root_.id rfl
theorem cells_func {f : FuncId} {c : List AV} : (AV.func f c).cells? = some [.func f c] := _root_.id rfl
theorem sub_all {cs : List AV} {n : Nat} (h : n = cs.length) : sub cs 0 n = some cs := by subst h; simp [sub]
theorem inRange_int {n : Nat} : inRange (.int k a) n = if 0 ≤ a then (if a.toNat < n then some a.toNat else none) else none := by
  simp only [inRange]
  by_cases h : 0 ≤ a
  · rw [if_pos h]
    by_cases h' : a.toNat < n
    · rw [if_pos h', if_pos ⟨h, by omega⟩]
    · rw [if_neg h', if_neg (by omega)]
  · rw [if_neg h, if_neg (by omega)]
theorem bound_none {d t : Nat} : bound? none d t = some d := rfl
theorem bound_int {d t : Nat} : bound? (some (.int k a)) d t = if 0 ≤ a then (if a.toNat ≤ t then some a.toNat else none) else none := by
  simp only [bound?, ofInt?]
  by_cases h : 0 ≤ a
  · rw [if_pos h]
    by_cases h' : a.toNat ≤ t
    · rw [if_pos h', if_pos ⟨h, by omega⟩]
    · rw [if_neg h', if_neg (by omega)]
  · rw [if_neg h, if_neg (by omega)]
theorem iAddr_slice {i o l s s' : Nat} {c : Option Nat} {x : AV} : iAddr s (.slice i o l c s') x = (inRange x l).bind fun k => if s' = s then some (.ptr i (o + k * s)) else none := rfl
theorem iAddr_imm {s : Nat} {r : List (List AV)} {f n : Bool} {x : AV} : iAddr s (.imm r f n) x = (inRange x r.length).bind fun k => (r[k]?).bind fun r => if r.length = s then some (.iptr r) else none := rfl
theorem aAddr_ptr {i o n s : Nat} {x : AV} : aAddr n s (.ptr i o) x = (inRange x n).map fun k => .ptr i (o + k * s) := rfl
theorem aAddr_iptr {n s : Nat} {c : List AV} {x : AV} : aAddr n s (.iptr c) x = (inRange x n).map fun k => .iptr (c.drop (k * s)) := rfl
theorem cast_zero : ((0 : Nat) : Int) = 0 := _root_.id rfl
theorem cast_one : ((1 : Nat) : Int) = 1 := _root_.id rfl
theorem cell_str : (AV.str x).isCell = true := _root_.id rfl
theorem cell_int : (AV.int k a).isCell = true := _root_.id rfl
theorem cell_bool {p : Bool} : (AV.bool p).isCell = true := _root_.id rfl
theorem cell_ptr {i o : Nat} : (AV.ptr i o).isCell = true := _root_.id rfl
theorem cell_iptr {c : List AV} : (AV.iptr c).isCell = true := _root_.id rfl
theorem cell_nilptr : AV.nilptr.isCell = true := _root_.id rfl
theorem cell_nilslice : AV.nilslice.isCell = true := _root_.id rfl
theorem cell_slice {i o l s : Nat} {c : Option Nat} : (AV.slice i o l c s).isCell = true := _root_.id rfl
theorem cell_imm {r : List (List AV)} {f n : Bool} : (AV.imm r f n).isCell = true := _root_.id rfl
theorem cell_func {f : FuncId} {c : List AV} : (AV.func f c).isCell = true := _root_.id rfl
theorem cell_nilif : AV.nilif.isCell = true := _root_.id rfl
theorem cell_someif : AV.someif.isCell = true := _root_.id rfl
theorem cell_nilfunc : AV.nilfunc.isCell = true := _root_.id rfl
theorem wrap_one : IntKind.wrap .i64 1 = 1 := _root_.id rfl
theorem resVals_nil : resVals e σ [] = some [] := _root_.id rfl
theorem resVals_t {n : Nat} {r : List MRes} : resVals e σ (.t n :: r) = (resVals e σ r).map (e n :: ·) := by
  simp only [resVals, resVal]; cases resVals e σ r <;> rfl
theorem resVals_cN {n m : Nat} {r : List MRes} : resVals e σ (.cN n m :: r) = (ldCells σ m (e n)).bind fun cs => (resVals e σ r).map (.agg cs :: ·) := by
  simp only [resVals, resVal]; cases ldCells σ m (e n) <;> cases resVals e σ r <;> rfl
theorem resVals_c1 {n : Nat} {r : List MRes} : resVals e σ (.c1 n :: r) = (ldCell σ (e n)).bind fun c => (resVals e σ r).map (c :: ·) := by
  simp only [resVals, resVal]; cases ldCell σ (e n) <;> cases resVals e σ r <;> rfl
theorem retOf_one {v : AV} : retOf [v] = v := _root_.id rfl
theorem retOf_two {v w : AV} {l : List AV} : retOf (v :: w :: l) = .tuple (v :: w :: l) := _root_.id rfl
theorem retOf_nil : retOf [] = .tuple [] := _root_.id rfl
end
end Go.Gz
