/-
  Plain laws for CurveTells.
-/
import Derived.Test.YtgkndcincgpmdaaPlainLaw8
namespace Plain
open Go Go.Sym
theorem errno4 (X : List (BitVec 8)) : decide ((if X = zeroK then (4 : Int) else 0) = 4) = decide (X = zeroK) := by
  by_cases h : X = zeroK
  · rw [if_pos h, decide_eq_true h]; rfl
  · rw [if_neg h, decide_eq_false h]; rfl
theorem errno0 (X : List (BitVec 8)) : decide ((if X = zeroK then (4 : Int) else 0) = 0) = !decide (X = zeroK) := by
  by_cases h : X = zeroK
  · rw [if_pos h, decide_eq_true h]; rfl
  · rw [if_neg h, decide_eq_false h]; rfl
end Plain
