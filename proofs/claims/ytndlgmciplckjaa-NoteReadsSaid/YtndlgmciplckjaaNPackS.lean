/- Pack's bytes lie in a block of their own. No condition. -/
import Derived.Test.YtndlgmciplckjaaK34
import Derived.Test.YtndlgmciplckjaaNPackN
set_option linter.unusedVariables false
set_option linter.unusedSimpArgs false
namespace Go.Proofs.Ytndlgmciplckjaa.note
open Go.ChangeShapes Go.WideShapes Go.ChangeAt Go.RowKit Go.Gz
set_option maxHeartbeats 4000000
set_option maxRecDepth 10000
def PkS (n : NoteV) (vs : List AV) (τ : AHeap) : Prop := (mayB n = false ∧ vs = [.nilslice, .int .i64 1] ∧ τ = []) ∨ (mayB n = true ∧ vs = [.slice 0 0 n.bytes.length none 1, .int .i64 0] ∧ τ = [some (n.bytes.map byteAV)])
theorem packS_ok (n : NoteV) (hs : n.sz) : Tri Try.prog 12 [.agg n.cells] [] fun r τ => ∃ vs, r = .tuple vs ∧ PkS n vs τ ∧ (∀ v ∈ vs, shVOK v) ∧ ∀ (id : Nat) c, τ[id]? = some (some c) → flatL c := by
  refine Tri.less (pack_any n hs (fun r σ => (mayB n = false ∧ r = .tuple [.nilslice, .int .i64 1]) ∨ (mayB n = true ∧ ∃ d, hget σ d = some (n.bytes.map byteAV) ∧ r = .tuple [.slice d 0 n.bytes.length none 1, .int .i64 0])) (fun hm σ => .inl ⟨hm, rfl⟩) (fun hm σ d hd => .inr ⟨hm, d, hd, rfl⟩)) fun r σ' h => ?_
  rcases h with ⟨hm, rfl⟩ | ⟨hm, d, hd, rfl⟩
  · refine ⟨[], .tuple [.nilslice, .int .i64 1], [], rfl, by unfold blksP; trivial, ?_, _, rfl, .inl ⟨hm, rfl, rfl⟩, ?_, ?_⟩
    · unfold wv wvs wv wvs wv wvs; simp
    · intro v hv; simp at hv; rcases hv with rfl | rfl <;> rfl
    · intro id c h; simp at h
  · have hlt := hget_lt hd
    refine ⟨[some d], .tuple [.slice 0 0 n.bytes.length none 1, .int .i64 0], [some (n.bytes.map byteAV)], ?_, ?_, ?_, _, rfl, .inr ⟨hm, rfl, rfl⟩, ?_, ?_⟩
    · have : Nat.blt d σ'.length = true := by rw [Nat.blt_eq]; exact hlt
      simp [keepB, this]
    · unfold blksP blkP blksP
      exact ⟨⟨_, hd, wvs_flat (by intro x hx; obtain ⟨b, _, rfl⟩ := List.mem_map.1 hx; rfl)⟩, trivial⟩
    · unfold wv wvs wv wvs wv wvs; simp
    · intro v hv; simp at hv; rcases hv with rfl | rfl
      · trivial
      · rfl
    · intro id c h
      match id with
      | 0 => simp at h; subst h; intro x hx; obtain ⟨b, _, rfl⟩ := List.mem_map.1 hx; rfl
      | n + 1 => simp at h
def packSD (args : List AV) (σ : AHeap) (K : AV → AHeap → Prop) : Prop := ∃ n : NoteV, args = [.agg n.cells] ∧ n.sz ∧ (mayB n = false → K (.tuple [.nilslice, .int .i64 1]) σ) ∧ (mayB n = true → K (.tuple [.slice σ.length 0 n.bytes.length none 1, .int .i64 0]) (σ ++ [some (n.bytes.map byteAV)]))
theorem packSD_ok (args : List AV) (σ : AHeap) (K : AV → AHeap → Prop) (h : packSD args σ K) : Tri Try.prog 12 args σ K := by
  obtain ⟨n, rfl, hs, h0, h1⟩ := h
  refine (Tri.behindP (σ := σ) (by simp only [pureL, note_pure, Bool.and_self]) (packS_ok n hs)).mono fun r σ' hr => ?_
  obtain ⟨vs, τ, hq, rfl, rfl⟩ := hr
  rcases hq with ⟨hm, rfl, rfl⟩ | ⟨hm, rfl, rfl⟩
  · rw [List.append_nil]; exact h0 hm
  · have e : AV.tuple ([AV.slice 0 0 n.bytes.length none 1, AV.int .i64 0].map (shV σ.length)) = .tuple [.slice σ.length 0 n.bytes.length none 1, .int .i64 0] := by simp [shV, shC]
    rw [e]; exact h1 hm
end Go.Proofs.Ytndlgmciplckjaa.note
