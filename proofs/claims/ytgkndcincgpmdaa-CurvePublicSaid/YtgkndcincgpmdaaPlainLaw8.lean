/-
  Plain laws for the statements of hatchwaylaw08.
-/
import Derived.Test.YtgkndcincgpmdaaPlainInv
namespace Plain
open Go Go.Sym
def k1B : List (BitVec 8) := 1#8 :: List.replicate 31 0#8
def k2B : List (BitVec 8) := 0#8 :: 1#8 :: List.replicate 30 0#8
def k6B : List (BitVec 8) := 6#8 :: List.replicate 31 0#8
def nA : Nat := 52573937849532372069814888178136277301931757964231753054399601207743438775599
def nB : Nat := 9778852568262603255207576436991981713100718914866697307268553785501266105607
def nX : Nat := 19247547465488619188395744744880991150293272918524894335368022941166932631825
theorem pub1 : multL k1B nineK = leB nA 32 := by
  rw [multL_law k1B nineK rfl, multN_inv, show fmul _ _ = nA from by decide +kernel]
theorem pub2 : multL k2B nineK = leB nB 32 := by
  rw [multL_law k2B nineK rfl, multN_inv, show fmul _ _ = nB from by decide +kernel]
theorem pub6 : multL k6B nineK = leB nA 32 := by
  rw [multL_law k6B nineK rfl, multN_inv, show fmul _ _ = nA from by decide +kernel]
theorem shared1 : multL k1B (leB nB 32) = leB nX 32 := by
  rw [multL_law k1B _ (leB_len _ _), multN_inv, show fmul _ _ = nX from by decide +kernel]
theorem shared2 : multL k2B (leB nA 32) = leB nX 32 := by
  rw [multL_law k2B _ (leB_len _ _), multN_inv, show fmul _ _ = nX from by decide +kernel]
theorem shared0 : multL k1B zeroK = zeroK := by
  rw [multL_law k1B _ rfl, multN_inv, show fmul _ _ = 0 from by decide +kernel]
  decide +kernel
theorem apart_ab : ¬ leB nA 32 = leB nB 32 := by decide +kernel
theorem apart_x : ¬ leB nX 32 = zeroK := by decide +kernel
end Plain
