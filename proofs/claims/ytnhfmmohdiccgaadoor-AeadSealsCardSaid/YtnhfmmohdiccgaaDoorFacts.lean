/-
  Closed facts of the program that the walks name. (Printed by seatfacts.py, a program of this session.)
-/
import Derived.Test.YtnhfmmohdiccgaaDoorSymJ
import Derived.Test.YtnhfmmohdiccgaaDoorProg
namespace Go.Proofs.YtnhfmmohdiccgaaDoor
open Go.Sym
theorem mixed : Tryd.prog.follows .mixedOrders = true := by kernel_rfl
theorem elem27 : ElemT Tryd.prog 27 5 (.int .u8 0) 1 := ⟨Tryd.underlying27, ⟨Tryd.t5, by kernel_rfl, rfl, rfl, rfl⟩, rfl⟩
theorem elem55 : ElemT Tryd.prog 55 53 (.int .u64 0) 8 := ⟨Tryd.underlying55, ⟨Tryd.t53, by kernel_rfl, rfl, rfl, rfl⟩, rfl⟩
theorem elem73 : ElemT Tryd.prog 73 27 (.slice none 0 0) 24 := ⟨Tryd.underlying73, ⟨Tryd.t27, by kernel_rfl, rfl, rfl, rfl⟩, rfl⟩
theorem elem88 : ElemT Tryd.prog 88 3 (.int .i64 0) 8 := ⟨Tryd.underlying88, ⟨Tryd.t3, by kernel_rfl, rfl, rfl, rfl⟩, rfl⟩
theorem arr22 : ArrT Tryd.prog 22 5 32 := ⟨Tryd.underlying22, Tryd.underlying5, ⟨Tryd.t5, by kernel_rfl, rfl⟩, Tryd.isAgg5, by kernel_rfl⟩
theorem arr23 : ArrT Tryd.prog 23 5 32 := ⟨Tryd.underlying23, Tryd.underlying5, ⟨Tryd.t5, by kernel_rfl, rfl⟩, Tryd.isAgg5, by kernel_rfl⟩
theorem arr25 : ArrT Tryd.prog 25 5 12 := ⟨Tryd.underlying25, Tryd.underlying5, ⟨Tryd.t5, by kernel_rfl, rfl⟩, Tryd.isAgg5, by kernel_rfl⟩
theorem arr26 : ArrT Tryd.prog 26 5 12 := ⟨Tryd.underlying26, Tryd.underlying5, ⟨Tryd.t5, by kernel_rfl, rfl⟩, Tryd.isAgg5, by kernel_rfl⟩
theorem arr29 : ArrT Tryd.prog 29 5 64 := ⟨Tryd.underlying29, Tryd.underlying5, ⟨Tryd.t5, by kernel_rfl, rfl⟩, Tryd.isAgg5, by kernel_rfl⟩
theorem arr61 : ArrT Tryd.prog 61 5 16 := ⟨Tryd.underlying61, Tryd.underlying5, ⟨Tryd.t5, by kernel_rfl, rfl⟩, Tryd.isAgg5, by kernel_rfl⟩
theorem arr93 : ArrT Tryd.prog 93 5 24 := ⟨Tryd.underlying93, Tryd.underlying5, ⟨Tryd.t5, by kernel_rfl, rfl⟩, Tryd.isAgg5, by kernel_rfl⟩
end Go.Proofs.YtnhfmmohdiccgaaDoor
