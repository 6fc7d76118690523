/-
  Closed facts of the program that the walks name. (Printed by seatfacts.py, a program of this session.)
-/
import Derived.Test.YtgkndcincgpmdaaSymJ
import Derived.Test.YtgkndcincgpmdaaProg
namespace Go.Proofs.Ytgkndcincgpmdaa
open Go.Sym
theorem mixed : Try.prog.follows .mixedOrders = true := by kernel_rfl
theorem elem29 : ElemT Try.prog 29 5 (.int .u8 0) 1 := ⟨Try.underlying29, ⟨Try.t5, by kernel_rfl, rfl, rfl, rfl⟩, rfl⟩
theorem elem53 : ElemT Try.prog 53 3 (.int .i64 0) 8 := ⟨Try.underlying53, ⟨Try.t3, by kernel_rfl, rfl, rfl, rfl⟩, rfl⟩
theorem arr22 : ArrT Try.prog 22 5 32 := ⟨Try.underlying22, Try.underlying5, ⟨Try.t5, by kernel_rfl, rfl⟩, Try.isAgg5, by kernel_rfl⟩
theorem arr23 : ArrT Try.prog 23 5 32 := ⟨Try.underlying23, Try.underlying5, ⟨Try.t5, by kernel_rfl, rfl⟩, Try.isAgg5, by kernel_rfl⟩
end Go.Proofs.Ytgkndcincgpmdaa
