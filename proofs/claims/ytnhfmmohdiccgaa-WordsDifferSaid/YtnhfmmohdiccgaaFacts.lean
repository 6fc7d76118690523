/-
  Closed facts of the program that the walks name. (Printed by seatfacts.py, a program of this session.)
-/
import Derived.Test.YtnhfmmohdiccgaaSymG
import Derived.Test.YtnhfmmohdiccgaaProg
namespace Go.Proofs.Ytnhfmmohdiccgaa
open Go.Sym
theorem mixed : Try.prog.follows .mixedOrders = true := by kernel_rfl
theorem elem22 : ElemT Try.prog 22 5 (.int .u8 0) 1 := ⟨Try.underlying22, ⟨Try.t5, by kernel_rfl, rfl, rfl, rfl⟩, rfl⟩
theorem elem40 : ElemT Try.prog 40 3 (.int .i64 0) 8 := ⟨Try.underlying40, ⟨Try.t3, by kernel_rfl, rfl, rfl, rfl⟩, rfl⟩
end Go.Proofs.Ytnhfmmohdiccgaa
