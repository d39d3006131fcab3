/- The rules of the operations that only these pages know. -/
import Derived.Test.YtbamlhgjpggihaaDoorK34
set_option linter.unusedVariables false
set_option maxRecDepth 10000
namespace Go.Gz
theorem abin_q1 {i : Nat} {t : TypeId} : abin .eql .nilp (.bptr i t) .nilptr = some (.bool false) := _root_.id rfl
theorem abin_q2 {i : Nat} {t : TypeId} : abin .neq .nilp (.bptr i t) .nilptr = some (.bool true) := _root_.id rfl
theorem abin_q3 {i : Nat} {t : TypeId} : abin .eql .nilp (.bptr i t) (.bptr i t) = some (.bool true) := by
  show (if i = i ∧ t = t then some true else none).map AV.bool = _
  rw [if_pos ⟨rfl, rfl⟩]; rfl
theorem abin_q4 {i : Nat} {t : TypeId} : abin .neq .nilp (.bptr i t) (.bptr i t) = some (.bool false) := by
  show (if i = i ∧ t = t then some true else none).map (fun b => AV.bool (!b)) = _
  rw [if_pos ⟨rfl, rfl⟩]; rfl
theorem cells_bptr {i : Nat} {t : TypeId} : (AV.bptr i t).cells? = some [.bptr i t] := _root_.id rfl
theorem cell_bptr {i : Nat} {t : TypeId} : (AV.bptr i t).isCell = true := _root_.id rfl
theorem cells_brow {i l : Nat} {t : TypeId} : (AV.brow i l t).cells? = some [.brow i l t] := _root_.id rfl
theorem cell_brow {i l : Nat} {t : TypeId} : (AV.brow i l t).isCell = true := _root_.id rfl
theorem cells_nilif : AV.nilif.cells? = some [.nilif] := _root_.id rfl
theorem cells_someif : AV.someif.cells? = some [.someif] := _root_.id rfl
theorem cells_byte {b : UInt8} : (byteAV b).cells? = some [byteAV b] := _root_.id rfl
theorem cell_byte {b : UInt8} : (byteAV b).isCell = true := _root_.id rfl
theorem baseY : type_of% (And.intro @cells_bptr (And.intro @cell_bptr (And.intro @cells_brow (And.intro @cell_brow (And.intro @cells_nilif (And.intro @cell_nilif (And.intro @cells_someif (And.intro @cell_someif (And.intro @cells_byte @cell_byte))))))))) :=
  And.intro @cells_bptr (And.intro @cell_bptr (And.intro @cells_brow (And.intro @cell_brow (And.intro @cells_nilif (And.intro @cell_nilif (And.intro @cells_someif (And.intro @cell_someif (And.intro @cells_byte @cell_byte))))))))
theorem baseX : type_of% (And.intro @sOp_ext (And.intro @abin_i1 (And.intro @abin_i2 (And.intro @abin_i3 (And.intro @abin_i4 (And.intro @abin_q1 (And.intro @abin_q2 (And.intro @abin_q3 (And.intro @abin_q4
  (And.intro @evExt.eq_1 (And.intro @evExt.eq_2 (And.intro @evExt.eq_3 (And.intro @evExt.eq_4 (And.intro @evExt.eq_5 (And.intro @evExt.eq_6 (And.intro @evExt.eq_7 (And.intro @evExt.eq_8 @evExt.eq_9)))))))))))))))))  :=
  And.intro @sOp_ext (And.intro @abin_i1 (And.intro @abin_i2 (And.intro @abin_i3 (And.intro @abin_i4 (And.intro @abin_q1 (And.intro @abin_q2 (And.intro @abin_q3 (And.intro @abin_q4
  (And.intro @evExt.eq_1 (And.intro @evExt.eq_2 (And.intro @evExt.eq_3 (And.intro @evExt.eq_4 (And.intro @evExt.eq_5 (And.intro @evExt.eq_6 (And.intro @evExt.eq_7 (And.intro @evExt.eq_8 @evExt.eq_9))))))))))))))))
end Go.Gz
