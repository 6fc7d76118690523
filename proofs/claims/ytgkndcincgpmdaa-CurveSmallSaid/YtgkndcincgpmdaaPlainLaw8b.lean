/-
  A multiple is told by its least bytes, and hangs on the number alone.
-/
import Derived.Test.YtgkndcincgpmdaaPlainLaw8
namespace Plain
open Go Go.Sym
theorem pow32 : (256 : Nat) ^ 32 = 115792089237316195423570985008687907853269984665640564039457584007913129639936 := by decide
theorem uN_lt (u : List (BitVec 8)) : uN u < FP := Nat.mod_lt _ (by decide)
theorem uN_leB (v : Nat) (h : v < FP) : uN (leB v 32) = v := by
  unfold uN
  rw [leB_num 32 v (by rw [pow32]; simp only [FP] at h; omega), Nat.mod_eq_of_lt (a := v) (by simp only [FP] at h; omega), Nat.mod_eq_of_lt h]
theorem from_bytes (u : List (BitVec 8)) (hu : u.length = 32) : bytesL (fromL u) = leB (uN u) 32 := bytes_eq (from_el u hu)
theorem multN_lt (k : List (BitVec 8)) (u : Nat) : multN k u < FP := fmul_lt _ _
theorem least_again (k u : List (BitVec 8)) (hu : u.length = 32) : bytesL (fromL (multL k u)) = multL k u := by
  rw [from_bytes _ (multL_len k u), multL_law k u hu, uN_leB _ (multN_lt _ _)]
theorem least_same (k u : List (BitVec 8)) (hu : u.length = 32) : multL k (bytesL (fromL u)) = multL k u := by
  rw [from_bytes u hu, multL_law k _ (leB_len _ _), multL_law k u hu, uN_leB _ (uN_lt u)]
end Plain
