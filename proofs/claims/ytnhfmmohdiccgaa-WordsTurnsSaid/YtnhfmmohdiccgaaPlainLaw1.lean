/-
  Plain laws that the statements of hatchwaylaw01 need.
-/
import Derived.Test.YtnhfmmohdiccgaaPlainWords
namespace Plain
theorem rotI_bit (X : BitVec 32) (i : Int) (k : Nat) (hk : k < 32) : (rotI X i).getLsbD k = X.getLsbD (((k : Int) - i) % 32).toNat := by
  unfold rotI
  rw [BitVec.getLsbD_rotateLeft]
  by_cases h : k < (i % 32).toNat % 32
  · simp only [h, decide_true, cond_true]
    congr 1; omega
  · simp only [h, decide_false, cond_false, hk, decide_true, Bool.true_and]
    congr 1; omega
theorem rotI_rotI (X : BitVec 32) (i j : Int) : rotI (rotI X i) j = rotI X (i + j) := by
  apply BitVec.eq_of_getLsbD_eq
  intro k hk
  rw [rotI_bit _ _ _ hk, rotI_bit _ _ _ hk, rotI_bit _ _ _ (by omega)]
  congr 1; omega
theorem rotI_zero (X : BitVec 32) (i : Int) (h : i % 32 = 0) : rotI X i = X := by
  apply BitVec.eq_of_getLsbD_eq
  intro k hk
  rw [rotI_bit _ _ _ hk]
  congr 1; omega
end Plain
