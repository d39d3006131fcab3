/- What Read answers to any bytes. No condition. -/
import Derived.Test.YtndlgmciplckjaaNReadO
import Derived.Test.YtndlgmciplckjaaNCanon
set_option linter.unusedVariables false
set_option linter.unusedSimpArgs false
namespace Go.Proofs.Ytndlgmciplckjaa.note
open Go.ChangeShapes Go.WideShapes Go.ChangeAt Go.RowKit Go.Gz
set_option maxHeartbeats 4000000
set_option maxRecDepth 10000
def maySD (args : List AV) (σ : AHeap) (K : AV → AHeap → Prop) : Prop := ∃ (cs : List AV) (n : NoteV), args = [.agg cs] ∧ cs.map nz1 = n.cells ∧ n.sz ∧ K (.bool (mayB n)) σ
theorem maySD_ok (args : List AV) (σ : AHeap) (K : AV → AHeap → Prop) (h : maySD args σ K) : Tri Try.prog 13 args σ K := by
  obtain ⟨cs, n, rfl, hc, hs, h⟩ := h
  refine Tri.nz ?_
  rw [hc]
  exact mayD_ok _ _ _ ⟨n, rfl, hs, h⟩
def F7 : PCall := rowQ 26 bodyRD (rowQ 13 maySD (rowQ 27 numRD (rowQ 28 endRD noCall)))
theorem F7_app {f : FuncId} {args : List AV} {σ : AHeap} {K : AV → AHeap → Prop} : F7 f args σ K = rowQ 26 bodyRD (rowQ 13 maySD (rowQ 27 numRD (rowQ 28 endRD noCall))) f args σ K := _root_.id rfl
theorem F7_sound : Sound Try.prog F7 := rowQ_sound bodyRD_ok (rowQ_sound maySD_ok (rowQ_sound numRD_ok (rowQ_sound endRD_ok (noCall_sound _))))
def ansN (p : NoteV × Int) : AV := .tuple [.agg p.1.cells, .int .i64 p.2]
theorem ansN_pure (p : NoteV × Int) : (ansN p).pure = true := by
  have h := note_pure p.1
  simp only [ansN, AV.pure, pureL, Bool.and_true] at h ⊢
  exact h
theorem ansN_frz {σ : AHeap} {cs : List AV} {p : NoteV × Int} (hp : pureL cs = true) (hc : cs.map nz1 = p.1.cells) : Frz σ (.tuple [.agg cs, .int .i64 p.2]) (ansN p) := by
  refine .tuple rfl (fun i x y hx hy => ?_)
  match i with
  | 0 => simp at hx hy; subst hx; subst hy; rw [← hc]; exact nz_frz hp
  | 1 => simp at hx hy; subst hx; subst hy; exact .pure rfl
  | n + 2 => simp at hx
theorem zero_nz : (bareC 0 0 0 0 0).map nz1 = NoteV.zero.cells := rfl
theorem read_ok (bs : List UInt8) (hl : bs.length ≤ 4000000) : Tri Try.prog 11 [.imm (rws bs) false false] [] fun r _ => r.pure = true ∧ r = ansN (readNote bs) := by
  refine Tri.frozen (Q := fun r σ => Frz σ r (ansN (readNote bs))) (Tri.of_s c11 F7_sound ?_) (fun r σ hr => ⟨_, hr, ansN_pure _, rfl⟩)
  generalize hK : (fun (r : AV) (σ : AHeap) => Frz σ r (ansN (readNote bs))) = K
  have hK : ∀ r σ, Frz σ r (ansN (readNote bs)) → K r σ := by intro r σ hr; rw [← hK]; exact hr
  have hcan := note_can hl
  unfold readNote at hK
  simp only [F7_app, Z11, base1, baseE, ↓reduceIte, Nat.reduceAdd, Nat.reduceSub, Nat.reduceMul, Nat.reduceEqDiff, Nat.reduceLeDiff, Nat.reduceLT, Int.reduceLT, Int.reduceLE, Int.reduceEq, Int.reduceNe, Int.reduceToNat, Int.reduceAdd, Int.reduceSub, reduceCtorEq, Nat.reduceBEq, Nat.reduceBNe]
  refine ⟨1, bs, 0, rfl, ⟨false, false, rfl⟩, fun σ1 r1 f1 => ?_⟩
  have b1 := f1 0 _ rfl (by decide)
  have r1 : RdS σ1 1 (stN (bs, 0)).1 (stN (bs, 0)).2 := r1
  have v0 : (rdNum bs 0).1 = vN (bs, 0) := rfl
  rw [v0]
  simp only [F7_app, Z11, base1, baseE, ↓reduceIte, Nat.reduceAdd, Nat.reduceSub, Nat.reduceMul, Nat.reduceEqDiff, Nat.reduceLeDiff, Nat.reduceLT, Int.reduceLT, Int.reduceLE, Int.reduceEq, Int.reduceNe, Int.reduceToNat, Int.reduceAdd, Int.reduceSub, reduceCtorEq, Nat.reduceBEq, Nat.reduceBNe]
  refine ⟨1, _, _, rfl, r1, fun σ2 r2 f2 => ?_⟩
  have b2 := f2 0 _ b1 (by decide)
  have r2 : RdS σ2 1 (stN (stN (bs, 0))).1 (stN (stN (bs, 0))).2 := r2
  have v1 : (rdNum (stN (bs, 0)).1 (stN (bs, 0)).2).1 = vN (stN (bs, 0)) := rfl
  rw [v1]
  simp only [F7_app, Z11, base1, baseE, ↓reduceIte, Nat.reduceAdd, Nat.reduceSub, Nat.reduceMul, Nat.reduceEqDiff, Nat.reduceLeDiff, Nat.reduceLT, Int.reduceLT, Int.reduceLE, Int.reduceEq, Int.reduceNe, Int.reduceToNat, Int.reduceAdd, Int.reduceSub, reduceCtorEq, Nat.reduceBEq, Nat.reduceBNe]
  refine ⟨1, _, _, rfl, r2, fun σ3 r3 f3 => ?_⟩
  have b3 := f3 0 _ b2 (by decide)
  have r3 : RdS σ3 1 (stN (stN (stN (bs, 0)))).1 (stN (stN (stN (bs, 0)))).2 := r3
  have v2 : (rdNum (stN (stN (bs, 0))).1 (stN (stN (bs, 0))).2).1 = vN (stN (stN (bs, 0))) := rfl
  rw [v2]
  simp only [F7_app, Z11, base1, baseE, ↓reduceIte, Nat.reduceAdd, Nat.reduceSub, Nat.reduceMul, Nat.reduceEqDiff, Nat.reduceLeDiff, Nat.reduceLT, Int.reduceLT, Int.reduceLE, Int.reduceEq, Int.reduceNe, Int.reduceToNat, Int.reduceAdd, Int.reduceSub, reduceCtorEq, Nat.reduceBEq, Nat.reduceBNe]
  refine ⟨1, _, _, rfl, r3, fun σ4 r4 f4 => ?_⟩
  have b4 := f4 0 _ b3 (by decide)
  have r4 : RdS σ4 1 (stN (stN (stN (stN (bs, 0))))).1 (stN (stN (stN (stN (bs, 0))))).2 := r4
  have v3 : (rdNum (stN (stN (stN (bs, 0)))).1 (stN (stN (stN (bs, 0)))).2).1 = vN (stN (stN (stN (bs, 0)))) := rfl
  rw [v3]
  simp only [F7_app, Z11, base1, baseE, ↓reduceIte, Nat.reduceAdd, Nat.reduceSub, Nat.reduceMul, Nat.reduceEqDiff, Nat.reduceLeDiff, Nat.reduceLT, Int.reduceLT, Int.reduceLE, Int.reduceEq, Int.reduceNe, Int.reduceToNat, Int.reduceAdd, Int.reduceSub, reduceCtorEq, Nat.reduceBEq, Nat.reduceBNe]
  refine ⟨1, _, _, rfl, r4, fun σ5 r5 f5 => ?_⟩
  have b5 := f5 0 _ b4 (by decide)
  have r5 : RdS σ5 1 (st5 (bs, 0)).1 (st5 (bs, 0)).2 := r5
  have v4 : (rdNum (stN (stN (stN (stN (bs, 0))))).1 (stN (stN (stN (stN (bs, 0))))).2).1 = vN (stN (stN (stN (stN (bs, 0))))) := rfl
  rw [v4]
  unfold hdN at hcan hK
  generalize vN (bs, 0) = k at hcan hK ⊢
  generalize vN (stN (bs, 0)) = f at hcan hK ⊢
  generalize vN (stN (stN (bs, 0))) = t at hcan hK ⊢
  generalize vN (stN (stN (stN (bs, 0)))) = e at hcan hK ⊢
  generalize vN (stN (stN (stN (stN (bs, 0))))) = i at hcan hK ⊢
  generalize st5 (bs, 0) = s5 at r5 hcan hK ⊢
  simp only [F7_app, Z11, base1, baseE, ↓reduceIte, Nat.reduceAdd, Nat.reduceSub, Nat.reduceMul, Nat.reduceEqDiff, Nat.reduceLeDiff, Nat.reduceLT, Int.reduceLT, Int.reduceLE, Int.reduceEq, Int.reduceNe, Int.reduceToNat, Int.reduceAdd, Int.reduceSub, reduceCtorEq, Nat.reduceBEq, Nat.reduceBNe]
  refine ⟨1, s5, k, f, t, e, i, rfl, r5, fun σ6 cs r6 f6 hp hc => ?_⟩
  have b6 := f6 0 _ b5 (by decide)
  generalize readBody (bare k f t e i) s5 = p at r6 hc hcan hK ⊢
  obtain ⟨n, s⟩ := p
  have r6 : RdS σ6 1 s.1 s.2 := r6
  have hc : cs.map nz1 = n.cells := hc
  have hlen : cs.length = 27 := by have := congrArg List.length hc; rw [List.length_map] at this; rw [this]; rfl
  have hcell : (cs.all fun x => x.isCell) = true := nz_cells (by rw [hc]; rfl)
  have hput : put (bareC 0 0 0 0 0) 0 cs = some cs := put_all (by rw [hlen]; rfl)
  have hsub : sub cs 0 27 = some cs := sub_all (by omega)
  have l6 := hget_lt b6
  have pn : ∀ c : List AV, hget (hpush σ6 c) σ6.length = some c := fun c => push_new rfl
  have sn : ∀ c c' : List AV, hget (hset (hpush σ6 c) σ6.length c') σ6.length = some c' := fun c c' => set_same (pn c)
  simp only [F7_app, Z11, base1, baseE, ↓reduceIte, Nat.reduceAdd, Nat.reduceSub, Nat.reduceMul, Nat.reduceEqDiff, Nat.reduceLeDiff, Nat.reduceLT, Int.reduceLT, Int.reduceLE, Int.reduceEq, Int.reduceNe, Int.reduceToNat, Int.reduceAdd, Int.reduceSub, reduceCtorEq, Nat.reduceBEq, Nat.reduceBNe, pn, sn, hlen, hcell, hput]
  refine ⟨1, s.1, s.2, rfl, rd_alloc r6, fun σ7 f7 => ?_⟩
  have b7 := f7 0 _ (al_frame b6) (by decide)
  have c7 := f7 σ6.length _ (sn _ _) (by obtain ⟨f, nn, hg⟩ := r6; have := hget_lt hg; omega)
  generalize σ6.length = L at c7 l6 ⊢
  have s0' : ∀ (d : List AV), hget (hset σ7 0 d) 0 = some d := fun d => set_same b7
  by_cases hE : rdEnd s.1 s.2 = 0
  · obtain ⟨hz, _⟩ := hcan hE
    have hz : n.sz := hz
    simp only [F7_app, Z11, base1, baseE, ↓reduceIte, Nat.reduceAdd, Nat.reduceSub, Nat.reduceMul, Nat.reduceEqDiff, Nat.reduceLeDiff, Nat.reduceLT, Int.reduceLT, Int.reduceLE, Int.reduceEq, Int.reduceNe, Int.reduceToNat, Int.reduceAdd, Int.reduceSub, reduceCtorEq, Nat.reduceBEq, Nat.reduceBNe, b7, c7, hE, hsub, hlen, hcell, hput, s0']
    refine ⟨cs, n, rfl, hc, hz, ?_⟩
    cases hm : mayB n with
    | false =>
      have hf : finN (n, s) = (NoteV.zero, 5) := by simp [finN, hm]
      rw [hf] at hK
      simp only [F7_app, Z11, base1, baseE, ↓reduceIte, Nat.reduceAdd, Nat.reduceSub, Nat.reduceMul, Nat.reduceEqDiff, Nat.reduceLeDiff, Nat.reduceLT, Int.reduceLT, Int.reduceLE, Int.reduceEq, Int.reduceNe, Int.reduceToNat, Int.reduceAdd, Int.reduceSub, reduceCtorEq, Nat.reduceBEq, Nat.reduceBNe, b7, c7, hE, hsub, hlen, hcell, hput, s0']
      exact hK _ _ (ansN_frz (p := (NoteV.zero, 5)) rfl zero_nz)
    | true =>
      have hf : finN (n, s) = (n, 0) := by simp [finN, hm, hE]
      rw [hf] at hK
      simp only [F7_app, Z11, base1, baseE, ↓reduceIte, Nat.reduceAdd, Nat.reduceSub, Nat.reduceMul, Nat.reduceEqDiff, Nat.reduceLeDiff, Nat.reduceLT, Int.reduceLT, Int.reduceLE, Int.reduceEq, Int.reduceNe, Int.reduceToNat, Int.reduceAdd, Int.reduceSub, reduceCtorEq, Nat.reduceBEq, Nat.reduceBNe, b7, c7, hE, hsub, hlen, hcell, hput, s0']
      exact hK _ _ (ansN_frz (p := (n, 0)) hp hc)
  · have hf : finN (n, s) = (NoteV.zero, 5) := by simp [finN, hE]
    rw [hf] at hK
    simp only [F7_app, Z11, base1, baseE, ↓reduceIte, Nat.reduceAdd, Nat.reduceSub, Nat.reduceMul, Nat.reduceEqDiff, Nat.reduceLeDiff, Nat.reduceLT, Int.reduceLT, Int.reduceLE, Int.reduceEq, Int.reduceNe, Int.reduceToNat, Int.reduceAdd, Int.reduceSub, reduceCtorEq, Nat.reduceBEq, Nat.reduceBNe, b7, c7, hE, hsub, hlen, hcell, hput, s0']
    exact hK _ _ (ansN_frz (p := (NoteV.zero, 5)) rfl zero_nz)
def readD (args : List AV) (σ : AHeap) (K : AV → AHeap → Prop) : Prop := ∃ bs : List UInt8, args = [.imm (rws bs) false false] ∧ bs.length ≤ 4000000 ∧ K (ansN (readNote bs)) σ
theorem readD_ok (args : List AV) (σ : AHeap) (K : AV → AHeap → Prop) (h : readD args σ K) : Tri Try.prog 11 args σ K := by
  obtain ⟨bs, rfl, hl, h⟩ := h
  exact (Tri.pureD (by simp only [pureL, AV.pure, rws_pure, Bool.and_self]) (read_ok bs hl) σ).mono fun r σ' hr => by rw [hr.1, hr.2]; exact h
/-- What is read is packed as it was. -/
theorem read_back {bs : List UInt8} (hl : bs.length ≤ 4000000) : ((readNote bs).2 = 0 ∧ mayB (readNote bs).1 = true ∧ (readNote bs).1.sz ∧ (readNote bs).1.bytes = bs) ∨ readNote bs = (NoteV.zero, 5) := by
  have h := note_can hl
  unfold readNote finN
  split
  · rename_i hh
    exact .inl ⟨rfl, hh.2, (h hh.1).1, (h hh.1).2 hh.2⟩
  · exact .inr rfl
end Go.Proofs.Ytndlgmciplckjaa.note
