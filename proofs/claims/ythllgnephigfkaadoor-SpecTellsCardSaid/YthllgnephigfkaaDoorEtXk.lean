/- Short names for words of the print that a long printed proof uses hundreds of times (wip/xprint.py, SHRINK). -/
import Derived.Test.YthllgnephigfkaaDoorEtWWords
namespace Go.Proofs.YthllgnephigfkaaDoorW.PrintWords
open Go.RowKit
theorem bN {w : World} {g : Nat} {o : Obj} (h : w.heap[g]? = some o) (n : Nat) : (w.drewN n).heap[g]? = some o := blk_drewN h n
theorem bD {w : World} {g : Nat} {o : Obj} (h : w.heap[g]? = some o) : w.drew.heap[g]? = some o := blk_drew h
theorem bA {w : World} {g : Nat} {o : Obj} (h : w.heap[g]? = some o) (o' : Obj) : (w.alloc o').heap[g]? = some o := blk_alloc h o'
theorem lA {w W : World} (h : Below w.heap.size w W) (o : Obj) : Below w.heap.size w (W.alloc o) := below_alloc h o
theorem lD {base : Nat} {w W : World} (h : Below base w W) : Below base w W.drew := below_drew1 h
end Go.Proofs.YthllgnephigfkaaDoorW.PrintWords
