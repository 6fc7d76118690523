/-
  Closed facts of the program that the walks name. (Printed by seatfacts.py, a program of this session.)
-/
import Derived.Test.YtnhfmmohdiccgaaSymJ
import Derived.Test.YtnhfmmohdiccgaaProg
namespace Go.Proofs.Ytnhfmmohdiccgaa
open Go.Sym
theorem mixed : Try.prog.follows .mixedOrders = true := by kernel_rfl
theorem elem22 : ElemT Try.prog 22 5 (.int .u8 0) 1 := ⟨Try.underlying22, ⟨Try.t5, by kernel_rfl, rfl, rfl, rfl⟩, rfl⟩
theorem elem40 : ElemT Try.prog 40 3 (.int .i64 0) 8 := ⟨Try.underlying40, ⟨Try.t3, by kernel_rfl, rfl, rfl, rfl⟩, rfl⟩
theorem arr51 : ArrT Try.prog 51 5 32 := ⟨Try.underlying51, Try.underlying5, ⟨Try.t5, by kernel_rfl, rfl⟩, Try.isAgg5, by kernel_rfl⟩
theorem arr52 : ArrT Try.prog 52 5 32 := ⟨Try.underlying52, Try.underlying5, ⟨Try.t5, by kernel_rfl, rfl⟩, Try.isAgg5, by kernel_rfl⟩
theorem arr53 : ArrT Try.prog 53 5 16 := ⟨Try.underlying53, Try.underlying5, ⟨Try.t5, by kernel_rfl, rfl⟩, Try.isAgg5, by kernel_rfl⟩
theorem arr80 : ArrT Try.prog 80 5 24 := ⟨Try.underlying80, Try.underlying5, ⟨Try.t5, by kernel_rfl, rfl⟩, Try.isAgg5, by kernel_rfl⟩
end Go.Proofs.Ytnhfmmohdiccgaa
