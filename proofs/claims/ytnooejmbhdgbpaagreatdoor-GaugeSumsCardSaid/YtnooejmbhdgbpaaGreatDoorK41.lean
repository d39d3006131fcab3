/- The rules of the operations that only these pages know. -/
import Derived.Test.YtnooejmbhdgbpaaGreatDoorK34
set_option linter.unusedVariables false
set_option maxRecDepth 10000
namespace Go.Gz
theorem abin_q1 {i : Nat} {t : TypeId} : abin .eql .nilp (.bptr i t) .nilptr = some (.bool false) := _root_.id rfl
theorem abin_q2 {i : Nat} {t : TypeId} : abin .neq .nilp (.bptr i t) .nilptr = some (.bool true) := _root_.id rfl
theorem abin_q3 {i : Nat} {t : TypeId} : abin .eql .nilp (.bptr i t) (.bptr i t) = some (.bool true) := by
  show (if i = i ∧ t = t then some true else none).map AV.bool = _
  rw [if_pos ⟨rfl, rfl⟩]; rfl
theorem abin_q4 {i : Nat} {t : TypeId} : abin .neq .nilp (.bptr i t) (.bptr i t) = some (.bool false) := by
  show (if i = i ∧ t = t then some true else none).map (fun b => AV.bool (!b)) = _
  rw [if_pos ⟨rfl, rfl⟩]; rfl
theorem cells_bptr {i : Nat} {t : TypeId} : (AV.bptr i t).cells? = some [.bptr i t] := _root_.id rfl
theorem cell_bptr {i : Nat} {t : TypeId} : (AV.bptr i t).isCell = true := _root_.id rfl
theorem cells_brow {i l : Nat} {t : TypeId} : (AV.brow i l t).cells? = some [.brow i l t] := _root_.id rfl
theorem cell_brow {i l : Nat} {t : TypeId} : (AV.brow i l t).isCell = true := _root_.id rfl
theorem cells_nilif : AV.nilif.cells? = some [.nilif] := _root_.id rfl
theorem cells_someif : AV.someif.cells? = some [.someif] := _root_.id rfl
theorem cells_byte {b : UInt8} : (byteAV b).cells? = some [byteAV b] := _root_.id rfl
theorem cell_byte {b : UInt8} : (byteAV b).isCell = true := _root_.id rfl
theorem cells_map {i : Nat} : (AV.map i).cells? = some [.map i] := _root_.id rfl
theorem cell_map {i : Nat} : (AV.map i).isCell = true := _root_.id rfl
theorem cells_nilmap : AV.nilmap.cells? = some [.nilmap] := _root_.id rfl
theorem cell_nilmap : AV.nilmap.isCell = true := _root_.id rfl
theorem baseEq_i {k : IntKind} {a b : Int} : baseEq .i (.int k a) (.int k b) = some (a == b) := by simp [baseEq]
theorem baseEq_s {a b : List UInt8} : baseEq .s (.str a) (.str b) = some (a == b) := _root_.id rfl
theorem baseEq_b {a b : Bool} : baseEq .b (.bool a) (.bool b) = some (a == b) := _root_.id rfl
theorem found_s {z v : AV} {i : Nat} {ok : Bool} : found z ok (some (i, v)) = if ok then .tuple [v, .bool true] else v := _root_.id rfl
theorem found_n {z : AV} {ok : Bool} : found z ok none = if ok then .tuple [z, .bool false] else z := _root_.id rfl
theorem abin_fn1 {f : FuncId} {c : List AV} : abin .eql .nilf (.func f c) .nilfunc = some (.bool false) := _root_.id rfl
theorem abin_fn3 : abin .eql .nilf .nilfunc .nilfunc = some (.bool true) := _root_.id rfl
theorem baseY : type_of% (And.intro (And.intro (And.intro (@cells_bptr) (And.intro @cell_bptr @cells_brow)) (And.intro (And.intro @cell_brow @cells_nilif) (And.intro @cell_nilif @cells_someif))) (And.intro (And.intro (@cell_someif) (And.intro @cells_byte @cell_byte)) (And.intro (And.intro @cells_map @cell_map) (And.intro @cells_nilmap @cell_nilmap)))) :=
  And.intro (And.intro (And.intro (@cells_bptr) (And.intro @cell_bptr @cells_brow)) (And.intro (And.intro @cell_brow @cells_nilif) (And.intro @cell_nilif @cells_someif))) (And.intro (And.intro (@cell_someif) (And.intro @cells_byte @cell_byte)) (And.intro (And.intro @cells_map @cell_map) (And.intro @cells_nilmap @cell_nilmap)))
theorem baseX : type_of% (And.intro (And.intro (And.intro (And.intro (And.intro @sOp_ext @abin_i1) (And.intro @abin_i2 @abin_i3)) (And.intro (And.intro @abin_i4 @abin_q1) (And.intro @abin_q2 @abin_q3))) (And.intro (And.intro (And.intro @abin_q4 @evExt.eq_1) (And.intro @evExt.eq_2 @evExt.eq_3)) (And.intro (And.intro @evExt.eq_4 @evExt.eq_5) (And.intro @evExt.eq_6 @evExt.eq_7)))) (And.intro (And.intro (And.intro (And.intro @evExt.eq_8 @evExt.eq_9) (And.intro @evExt.eq_10 @evExt.eq_11)) (And.intro (And.intro @evExt.eq_12 @evExt.eq_13) (And.intro @evExt.eq_14 @evExt.eq_15))) (And.intro (And.intro (And.intro @baseEq_i @baseEq_s) (And.intro @baseEq_b @found_s)) (And.intro (And.intro @found_n @abin_fn1) (And.intro @abin_fn3 @beq_self_eq_true.{0}))))) :=
  And.intro (And.intro (And.intro (And.intro (And.intro @sOp_ext @abin_i1) (And.intro @abin_i2 @abin_i3)) (And.intro (And.intro @abin_i4 @abin_q1) (And.intro @abin_q2 @abin_q3))) (And.intro (And.intro (And.intro @abin_q4 @evExt.eq_1) (And.intro @evExt.eq_2 @evExt.eq_3)) (And.intro (And.intro @evExt.eq_4 @evExt.eq_5) (And.intro @evExt.eq_6 @evExt.eq_7)))) (And.intro (And.intro (And.intro (And.intro @evExt.eq_8 @evExt.eq_9) (And.intro @evExt.eq_10 @evExt.eq_11)) (And.intro (And.intro @evExt.eq_12 @evExt.eq_13) (And.intro @evExt.eq_14 @evExt.eq_15))) (And.intro (And.intro (And.intro @baseEq_i @baseEq_s) (And.intro @baseEq_b @found_s)) (And.intro (And.intro @found_n @abin_fn1) (And.intro @abin_fn3 @beq_self_eq_true.{0}))))
end Go.Gz
