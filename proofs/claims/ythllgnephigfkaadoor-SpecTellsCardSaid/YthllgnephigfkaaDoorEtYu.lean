/- Plain words on characters of texts. No program. -/
import Derived.WalkKit
import Derived.KernelRfl
import Derived.Laws.RangeString
namespace Go.Proofs.YthllgnephigfkaaDoor.Y
open Go.RowKit
def byteAt (s : ByteArray) (i : Nat) : Nat := (s.get! i).toNat
theorem byteAt_lt (s : ByteArray) (i : Nat) : byteAt s i < 256 := (s.get! i).toNat_lt
theorem get!_at (s : ByteArray) (j : Nat) (h : j < s.size) : s.get! j = s.data[j]'h := getElem!_pos s.data j h
end Go.Proofs.YthllgnephigfkaaDoor.Y
