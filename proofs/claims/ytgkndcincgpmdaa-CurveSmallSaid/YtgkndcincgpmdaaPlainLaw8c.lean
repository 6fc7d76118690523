/-
  Bits of a key that do not count.
-/
import Derived.Test.YtgkndcincgpmdaaPlainLaw8b
namespace Plain
open Go Go.Sym
def jK1 (k : List (BitVec 8)) (X : BitVec 8) : List (BitVec 8) := k.set 0 (k.getD 0 0#8 ^^^ (X &&& 7#8))
def jK (k : List (BitVec 8)) (X : BitVec 8) : List (BitVec 8) := (jK1 k X).set 31 ((jK1 k X).getD 31 0#8 ^^^ (X &&& 192#8))
def vU (u : List (BitVec 8)) (X : BitVec 8) : List (BitVec 8) := u.set 31 (u.getD 31 0#8 ^^^ (X &&& 128#8))
theorem low_bits (a x : BitVec 8) : (a ^^^ (x &&& 7#8)) &&& ~~~7#8 = a &&& ~~~7#8 := by
  apply BitVec.eq_of_getLsbD_eq
  intro i hi
  simp only [BitVec.getLsbD_and, BitVec.getLsbD_xor, BitVec.getLsbD_not]
  cases (7#8).getLsbD i <;> simp
theorem high_bits (a x : BitVec 8) : ((a ^^^ (x &&& 192#8)) &&& ~~~128#8) ||| 64#8 = (a &&& ~~~128#8) ||| 64#8 := by
  apply BitVec.eq_of_getLsbD_eq
  intro i hi
  simp only [BitVec.getLsbD_and, BitVec.getLsbD_or, BitVec.getLsbD_xor, BitVec.getLsbD_not]
  have h : ∀ i, i < 8 → (192#8).getLsbD i = true → ((128#8).getLsbD i = true ∨ (64#8).getLsbD i = true) := by decide
  cases h1 : (192#8).getLsbD i
  · simp
  · rcases h i hi h1 with h2 | h2 <;> simp [h2]
theorem top_bit (a x : BitVec 8) : (a ^^^ (x &&& 128#8)).toNat % 128 = a.toNat % 128 := by
  have h : (a ^^^ (x &&& 128#8)) &&& 127#8 = a &&& 127#8 := by
    apply BitVec.eq_of_getLsbD_eq
    intro i hi
    simp only [BitVec.getLsbD_and, BitVec.getLsbD_xor]
    have h : ∀ i, i < 8 → (127#8).getLsbD i = true → (128#8).getLsbD i = false := by decide
    cases h1 : (127#8).getLsbD i
    · simp
    · simp [h i hi h1]
  have h2 := congrArg BitVec.toNat h
  rw [BitVec.toNat_and, BitVec.toNat_and, show (127#8).toNat = 2 ^ 7 - 1 from rfl, Nat.and_two_pow_sub_one_eq_mod, Nat.and_two_pow_sub_one_eq_mod] at h2
  exact h2
theorem set_get (l : List (BitVec 8)) (i : Nat) (y : BitVec 8) (h : i < l.length) : (l.set i y).getD i 0#8 = y := by
  rw [List.getD_eq_getElem?_getD, List.getElem?_set_self h]; rfl
theorem set_get_ne (l : List (BitVec 8)) (i j : Nat) (y : BitVec 8) (h : i ≠ j) : (l.set i y).getD j 0#8 = l.getD j 0#8 := by
  rw [List.getD_eq_getElem?_getD, List.getElem?_set_ne h, List.getD_eq_getElem?_getD]
theorem clamp_same (k : List (BitVec 8)) (X : BitVec 8) (hk : k.length = 32) : clampL (jK k X) = clampL k := by
  have e0 : (jK1 k X).getD 31 0#8 = k.getD 31 0#8 := set_get_ne _ _ _ _ (by decide)
  have e1 : (jK k X).getD 0 0#8 = k.getD 0 0#8 ^^^ (X &&& 7#8) := by
    rw [jK, set_get_ne _ _ _ _ (by decide), jK1, set_get _ _ _ (by omega)]
  have e2 : (jK k X).getD 31 0#8 = k.getD 31 0#8 ^^^ (X &&& 192#8) := by
    rw [jK, set_get _ _ _ (by rw [jK1, List.length_set]; omega), e0]
  unfold clampL
  rw [set_get_ne _ _ _ _ (by decide), set_get_ne _ _ _ _ (by decide), e1, e2, low_bits, high_bits]
  rw [jK, e0, jK1]
  rw [List.set_comm _ _ (show (31 : Nat) ≠ 0 by decide), List.set_set, List.set_set]
theorem leN_set (u : List (BitVec 8)) (hu : u.length = 32) (y : BitVec 8) : leN (u.set 31 y) = leN (u.take 31) + 256 ^ 31 * y.toNat := by
  have h : u.set 31 y = u.take 31 ++ [y] := by
    rw [List.set_eq_take_append_cons_drop, if_pos (by omega), List.drop_of_length_le (by omega)]
  rw [h, leN_append, List.length_take, Nat.min_eq_left (by omega)]
  show _ = _ + 256 ^ 31 * y.toNat
  rw [show leN [y] = y.toNat from by simp [leN]]
theorem uN_same (u : List (BitVec 8)) (X : BitVec 8) (hu : u.length = 32) : uN (vU u X) = uN u := by
  have hs : u = u.set 31 (u.getD 31 0#8) := by
    apply List.ext_getElem?
    intro j
    rw [List.getElem?_set]
    split
    · rename_i h
      subst h
      rw [if_pos (by omega), List.getD_eq_getElem?_getD, List.getElem?_eq_getElem (by omega)]
      rfl
    · rfl
  have h1 : leN u = leN (u.take 31) + 256 ^ 31 * (u.getD 31 0#8).toNat := by
    conv => lhs; rw [hs]
    exact leN_set u hu _
  have h2 : leN (vU u X) = leN (u.take 31) + 256 ^ 31 * (u.getD 31 0#8 ^^^ (X &&& 128#8)).toNat := leN_set u hu _
  have h3 := top_bit (u.getD 31 0#8) X
  have e : (256 : Nat) ^ 31 = 452312848583266388373324160190187140051835877600158453279131187530910662656 := by decide
  unfold uN
  rw [h1, h2, e]
  congr 1
  omega
theorem clamps_same (k u : List (BitVec 8)) (X : BitVec 8) (hk : k.length = 32) (hu : u.length = 32) : multL (jK k X) (vU u X) = multL k u := by
  rw [multL_law _ _ (by rw [vU, List.length_set, hu]), multL_law k u hu, clamp_same k X hk, uN_same u X hu]
end Plain
