/- JournalKnown up to its last deed, run by the kernel. No condition. -/
import Derived.Test.YtmjnmnhpmbbmgabRows
import Derived.Test.YtmjnmnhpmbbmgabK22
import Derived.Test.YtmjnmnhpmbbmgabK36
set_option linter.unusedVariables false
set_option linter.unusedSimpArgs false
namespace Go.Proofs.Ytmjnmnhpmbbmgab.journal
open Go.ChangeShapes Go.WideShapes Go.ChangeAt Go.RowKit Go.Gz
set_option maxHeartbeats 4000000
set_option maxRecDepth 10000
def seen : List AV := [.ptr 82 0, .int .i64 0, .int .i64 87, .int .i64 0, .int .i64 170, .slice 262 0 1 none 14, .int .i64 83, .int .i64 1, .int .i64 1, .int .i64 1, .int .i64 7]
def atM : List AV := [.slice 265 0 87 none 1, .int .i64 87]
def atL : List AV := [.int .i64 1, .int .i64 0, .int .i64 0, .int .i64 0, .str [], .str [], .str [], .str [], .int .i64 0, .int .i64 0, .str [97], .str [98], .int .i64 0, .slice 259 0 1 none 2]
def heapIs (σ : AHeap) (j : Nat) (cs : List AV) : Bool := match hget σ j with
  | some c => AV.sames c cs
  | none => false
def heapLen (σ : AHeap) (j n : Nat) : Bool := match hget σ j with
  | some c => Nat.beq c.length n && c.all (fun x => x.isCell)
  | none => false
def endQ (e : Env) (σ : AHeap) : Bool := AV.sames [e 1, e 2, e 5, e 6, e 7, e 8, e 9, e 11, e 13, e 14, e 16] seen && (heapIs σ 82 atM && (heapIs σ 262 atL && heapLen σ 265 87))
theorem headRun : runHead Try.prog 1000 50 15 5 [] endQ = true := by kernel_rfl
end Go.Proofs.Ytmjnmnhpmbbmgab.journal
