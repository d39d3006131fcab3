/- Rows of the law, read as data. No condition. No condition. -/
import Derived.Test.YtgaopohogdinhaaGreatDoorNSizesS
set_option linter.unusedVariables false
set_option linter.unusedSimpArgs false
namespace Go.Proofs.YtgaopohogdinhaaGreatDoor.note
open Go.ChangeShapes Go.WideShapes Go.ChangeAt Go.RowKit Go.Gz
set_option maxHeartbeats 4000000
set_option maxRecDepth 10000
theorem rdAsk : Rd Tryz.prog 51 AskV.cells AskV.okS := by
  have hu : Tryz.prog.underlying 51 = some (.struct (Tryz.prog.fieldsOf 51)) := by kernel_rfl
  have hf : (Tryz.prog.fieldsOf 51).toList = [⟨ "Do", 3, 0, false, "", "", 0⟩, ⟨ "Client", 3, 1, false, "", "", 8⟩, ⟨ "Seq", 3, 2, false, "", "", 16⟩, ⟨ "Text", 9, 3, false, "", "", 24⟩, ⟨ "Val", 9, 4, false, "", "", 40⟩, ⟨ "From", 9, 5, false, "", "", 56⟩, ⟨ "To", 9, 6, false, "", "", 72⟩, ⟨ "Limit", 3, 7, false, "", "", 88⟩] := by kernel_rfl
  have h := rdf_cons (P := Tryz.prog) (f := ⟨ "Do", 3, 0, false, "", "", 0⟩) (o := 0) rfl (rd_int (k := .i64) (by kernel_rfl))
    (rdf_cons (f := ⟨ "Client", 3, 1, false, "", "", 8⟩) (by kernel_rfl) (rd_int (k := .i64) (by kernel_rfl))
    (rdf_cons (f := ⟨ "Seq", 3, 2, false, "", "", 16⟩) (by kernel_rfl) (rd_int (k := .i64) (by kernel_rfl))
    (rdf_cons (f := ⟨ "Text", 9, 3, false, "", "", 24⟩) (by kernel_rfl) (rd_str (by kernel_rfl))
    (rdf_cons (f := ⟨ "Val", 9, 4, false, "", "", 40⟩) (by kernel_rfl) (rd_str (by kernel_rfl))
    (rdf_cons (f := ⟨ "From", 9, 5, false, "", "", 56⟩) (by kernel_rfl) (rd_str (by kernel_rfl))
    (rdf_cons (f := ⟨ "To", 9, 6, false, "", "", 72⟩) (by kernel_rfl) (rd_str (by kernel_rfl))
    (rdf_cons (f := ⟨ "Limit", 3, 7, false, "", "", 88⟩) (by kernel_rfl) (rd_int (k := .i64) (by kernel_rfl)) (rdf_nil _))))))))
  rw [← hf] at h
  exact (rd_struct hu (by kernel_rfl) h).map (fun x => ⟨x.1, x.2.1, x.2.2.1, x.2.2.2.1, x.2.2.2.2.1, x.2.2.2.2.2.1, x.2.2.2.2.2.2.1, x.2.2.2.2.2.2.2.1⟩) (fun x => rfl) (fun x hx => ⟨hx.2.2.2.1, hx.2.2.2.2.1, hx.2.2.2.2.2.1, hx.2.2.2.2.2.2.1⟩)
theorem rdRec : Rd Tryz.prog 95 (fun p : List UInt8 × List UInt8 => [.str p.1, .str p.2]) (fun p => p.1.length ≤ 140737488351232 ∧ p.2.length ≤ 140737488351232) := by
  have hu : Tryz.prog.underlying 95 = some (.struct (Tryz.prog.fieldsOf 95)) := by kernel_rfl
  have hf : (Tryz.prog.fieldsOf 95).toList = [⟨ "Text", 9, 0, false, "", "", 0⟩, ⟨ "Val", 9, 1, false, "", "", 16⟩] := by kernel_rfl
  have h := rdf_cons (P := Tryz.prog) (f := ⟨ "Text", 9, 0, false, "", "", 0⟩) (o := 0) rfl (rd_str (by kernel_rfl)) (rdf_cons (f := ⟨ "Val", 9, 1, false, "", "", 16⟩) (by kernel_rfl) (rd_str (by kernel_rfl)) (rdf_nil _))
  rw [← hf] at h
  exact (rd_struct hu (by kernel_rfl) h).map (fun x => (x.1, x.2.1)) (fun x => rfl) (fun x hx => ⟨hx.1, hx.2.1⟩)
theorem rdRep : Rd Tryz.prog 54 RepV.cells RepV.okS := by
  have hu : Tryz.prog.underlying 54 = some (.struct (Tryz.prog.fieldsOf 54)) := by kernel_rfl
  have hf : (Tryz.prog.fieldsOf 54).toList = [⟨ "Client", 3, 0, false, "", "", 0⟩, ⟨ "Seq", 3, 1, false, "", "", 8⟩, ⟨ "Err", 25, 2, false, "", "", 16⟩, ⟨ "Found", 4, 3, false, "", "", 24⟩, ⟨ "Val", 9, 4, false, "", "", 32⟩, ⟨ "L", 52, 5, false, "", "", 48⟩, ⟨ "Next", 9, 6, false, "", "", 72⟩, ⟨ "More", 4, 7, false, "", "", 88⟩] := by kernel_rfl
  have hsl := rd_slice (P := Tryz.prog) (t := 52) (e := 95) (by kernel_rfl) (by decide +kernel) rdRec
  have h := rdf_cons (P := Tryz.prog) (f := ⟨ "Client", 3, 0, false, "", "", 0⟩) (o := 0) rfl (rd_int (k := .i64) (by kernel_rfl))
    (rdf_cons (f := ⟨ "Seq", 3, 1, false, "", "", 8⟩) (by kernel_rfl) (rd_int (k := .i64) (by kernel_rfl))
    (rdf_cons (f := ⟨ "Err", 25, 2, false, "", "", 16⟩) (by kernel_rfl) (rd_int (k := .i64) (by kernel_rfl))
    (rdf_cons (f := ⟨ "Found", 4, 3, false, "", "", 24⟩) (by kernel_rfl) (rd_bool (by kernel_rfl))
    (rdf_cons (f := ⟨ "Val", 9, 4, false, "", "", 32⟩) (by kernel_rfl) (rd_str (by kernel_rfl))
    (rdf_cons (f := ⟨ "L", 52, 5, false, "", "", 48⟩) (by kernel_rfl) hsl
    (rdf_cons (f := ⟨ "Next", 9, 6, false, "", "", 72⟩) (by kernel_rfl) (rd_str (by kernel_rfl))
    (rdf_cons (f := ⟨ "More", 4, 7, false, "", "", 88⟩) (by kernel_rfl) (rd_bool (by kernel_rfl)) (rdf_nil _))))))))
  rw [← hf] at h
  have hb : Tryz.prog.bytesOf 95 = 32 := by kernel_rfl
  refine (rd_struct hu (by kernel_rfl) h).map (fun x => ⟨x.1, x.2.1, x.2.2.1, x.2.2.2.1, x.2.2.2.2.1, x.2.2.2.2.2.1, x.2.2.2.2.2.2.1, x.2.2.2.2.2.2.2.1⟩) (fun x => rfl) (fun x hx => ⟨hx.2.2.2.2.1, hx.2.2.2.2.2.2.1, ?_, hx.2.2.2.2.2.1.2⟩)
  have h1 := hx.2.2.2.2.2.1.1
  rw [hb] at h1
  have h2 : x.2.2.2.2.2.1.length * 32 ≤ 140737488351232 := h1
  show x.2.2.2.2.2.1.length ≤ 140737488351232
  omega
theorem rdSpan : Rd Tryz.prog 44 (fun p : List UInt8 × List UInt8 => [.str p.1, .str p.2]) pairS := by
  have hu : Tryz.prog.underlying 44 = some (.struct (Tryz.prog.fieldsOf 44)) := by kernel_rfl
  have hf : (Tryz.prog.fieldsOf 44).toList = [⟨ "From", 9, 0, false, "", "", 0⟩, ⟨ "To", 9, 1, false, "", "", 16⟩] := by kernel_rfl
  have h := rdf_cons (P := Tryz.prog) (f := ⟨ "From", 9, 0, false, "", "", 0⟩) (o := 0) rfl (rd_str (by kernel_rfl))
    (rdf_cons (f := ⟨ "To", 9, 1, false, "", "", 16⟩) (by kernel_rfl) (rd_str (by kernel_rfl)) (rdf_nil _))
  rw [← hf] at h
  exact (rd_struct hu (by kernel_rfl) h).map (fun x => (x.1, x.2.1)) (fun x => rfl) (fun x hx => ⟨hx.1, hx.2.1⟩)
theorem rdSh : Rd Tryz.prog 46 ShV.cells (fun s => pairS s.span) := by
  have hu : Tryz.prog.underlying 46 = some (.struct (Tryz.prog.fieldsOf 46)) := by kernel_rfl
  have hf : (Tryz.prog.fieldsOf 46).toList = [⟨ "Span", 44, 0, false, "", "", 0⟩, ⟨ "Node", 3, 2, false, "", "", 32⟩, ⟨ "Epoch", 3, 3, false, "", "", 40⟩] := by kernel_rfl
  have h := rdf_cons (P := Tryz.prog) (f := ⟨ "Span", 44, 0, false, "", "", 0⟩) (o := 0) rfl rdSpan
    (rdf_cons (f := ⟨ "Node", 3, 2, false, "", "", 32⟩) (by kernel_rfl) (rd_int (k := .i64) (by kernel_rfl))
    (rdf_cons (f := ⟨ "Epoch", 3, 3, false, "", "", 40⟩) (by kernel_rfl) (rd_int (k := .i64) (by kernel_rfl)) (rdf_nil _)))
  rw [← hf] at h
  exact (rd_struct hu (by kernel_rfl) h).map (U := ShV) (fun x => ⟨x.1.1, x.1.2, x.2.1, x.2.2.1⟩) (fun x => rfl) (fun x hx => by obtain ⟨h1, _⟩ := hx; exact ⟨h1.1, h1.2⟩)
theorem le_of_mul {n b : Nat} (hb : 1 ≤ b) (h : n * b ≤ reachBytes) : n ≤ big := by
  have h1 : n * 1 ≤ n * b := Nat.mul_le_mul_left n hb
  have h2 : reachBytes = big := rfl
  omega
theorem rdAt : Rd Tryz.prog 49 (fun a : Int × List ShV => [.int .i64 a.1, .imm (a.2.map ShV.cells) false false]) (fun a => a.2.length ≤ big ∧ ∀ s ∈ a.2, pairS s.span) := by
  have hu : Tryz.prog.underlying 49 = some (.struct (Tryz.prog.fieldsOf 49)) := by kernel_rfl
  have hf : (Tryz.prog.fieldsOf 49).toList = [⟨ "Epoch", 3, 0, false, "", "", 0⟩, ⟨ "L", 47, 1, false, "", "", 8⟩] := by kernel_rfl
  have hsl := rd_slice (P := Tryz.prog) (t := 47) (e := 46) (by kernel_rfl) (by decide +kernel) rdSh
  have h := rdf_cons (P := Tryz.prog) (f := ⟨ "Epoch", 3, 0, false, "", "", 0⟩) (o := 0) rfl (rd_int (k := .i64) (by kernel_rfl))
    (rdf_cons (f := ⟨ "L", 47, 1, false, "", "", 8⟩) (by kernel_rfl) hsl (rdf_nil _))
  rw [← hf] at h
  have hb : Tryz.prog.bytesOf 46 = 48 := by kernel_rfl
  refine (rd_struct hu (by kernel_rfl) h).map (fun x => (x.1, x.2.1)) (fun x => rfl) (fun x hx => ⟨le_of_mul (b := Tryz.prog.bytesOf 46) (by rw [hb]; decide) hx.2.1.1, hx.2.1.2⟩)
theorem rdRow : Rd Tryz.prog 64 RowV.cells RowV.okS := by
  have hu : Tryz.prog.underlying 64 = some (.struct (Tryz.prog.fieldsOf 64)) := by kernel_rfl
  have hf : (Tryz.prog.fieldsOf 64).toList = [⟨ "Kind", 3, 0, false, "", "", 0⟩, ⟨ "From", 3, 1, false, "", "", 8⟩, ⟨ "To", 3, 2, false, "", "", 16⟩, ⟨ "Epoch", 3, 3, false, "", "", 24⟩, ⟨ "Tick", 3, 4, false, "", "", 32⟩, ⟨ "Ask", 51, 5, false, "", "", 40⟩, ⟨ "Reply", 54, 13, false, "", "", 136⟩, ⟨ "Span", 44, 21, false, "", "", 232⟩, ⟨ "L", 52, 23, false, "", "", 264⟩, ⟨ "Last", 62, 24, false, "", "", 288⟩, ⟨ "Atlas", 49, 25, false, "", "", 312⟩] := by kernel_rfl
  have hl := rd_slice (P := Tryz.prog) (t := 52) (e := 95) (by kernel_rfl) (by decide +kernel) rdRec
  have hla := rd_slice (P := Tryz.prog) (t := 62) (e := 54) (by kernel_rfl) (by decide +kernel) rdRep
  have h := rdf_cons (P := Tryz.prog) (f := ⟨ "Kind", 3, 0, false, "", "", 0⟩) (o := 0) rfl (rd_int (k := .i64) (by kernel_rfl))
    (rdf_cons (f := ⟨ "From", 3, 1, false, "", "", 8⟩) (by kernel_rfl) (rd_int (k := .i64) (by kernel_rfl))
    (rdf_cons (f := ⟨ "To", 3, 2, false, "", "", 16⟩) (by kernel_rfl) (rd_int (k := .i64) (by kernel_rfl))
    (rdf_cons (f := ⟨ "Epoch", 3, 3, false, "", "", 24⟩) (by kernel_rfl) (rd_int (k := .i64) (by kernel_rfl))
    (rdf_cons (f := ⟨ "Tick", 3, 4, false, "", "", 32⟩) (by kernel_rfl) (rd_int (k := .i64) (by kernel_rfl))
    (rdf_cons (f := ⟨ "Ask", 51, 5, false, "", "", 40⟩) (by kernel_rfl) rdAsk
    (rdf_cons (f := ⟨ "Reply", 54, 13, false, "", "", 136⟩) (by kernel_rfl) rdRep
    (rdf_cons (f := ⟨ "Span", 44, 21, false, "", "", 232⟩) (by kernel_rfl) rdSpan
    (rdf_cons (f := ⟨ "L", 52, 23, false, "", "", 264⟩) (by kernel_rfl) hl
    (rdf_cons (f := ⟨ "Last", 62, 24, false, "", "", 288⟩) (by kernel_rfl) hla
    (rdf_cons (f := ⟨ "Atlas", 49, 25, false, "", "", 312⟩) (by kernel_rfl) rdAt (rdf_nil _)))))))))))
  rw [← hf] at h
  have hb1 : Tryz.prog.bytesOf 95 = 32 := by kernel_rfl
  have hb2 : Tryz.prog.bytesOf 54 = 96 := by kernel_rfl
  refine (rd_struct hu (by kernel_rfl) h).map (fun x => ⟨x.1, x.2.1, x.2.2.1, x.2.2.2.1, x.2.2.2.2.1, x.2.2.2.2.2.1, x.2.2.2.2.2.2.1, x.2.2.2.2.2.2.2.1.1, x.2.2.2.2.2.2.2.1.2, x.2.2.2.2.2.2.2.2.1, x.2.2.2.2.2.2.2.2.2.1, x.2.2.2.2.2.2.2.2.2.2.1.1, x.2.2.2.2.2.2.2.2.2.2.1.2⟩) (fun x => rfl) (fun x hx => ?_)
  obtain ⟨_, _, _, _, _, ha, hr, hs, hl', hla', hat, _⟩ := hx
  exact ⟨ha, hr, hs.1, hs.2, le_of_mul (b := Tryz.prog.bytesOf 95) (by rw [hb1]; decide) hl'.1, hl'.2, le_of_mul (b := Tryz.prog.bytesOf 54) (by rw [hb2]; decide) hla'.1, hla'.2, hat.1, hat.2⟩
end Go.Proofs.YtgaopohogdinhaaGreatDoor.note
