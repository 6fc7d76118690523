/-
  Plain laws that the statements of hatchwaylaw01 need.
-/
import Derived.Test.YtnhfmmohdiccgaaDoorPlainWords
namespace Plain
theorem rotI_bit (X : BitVec 32) (i : Int) (k : Nat) (hk : k < 32) : (rotI X i).getLsbD k = X.getLsbD (((k : Int) - i) % 32).toNat := by
  unfold rotI
  rw [BitVec.getLsbD_rotateLeft]
  by_cases h : k < (i % 32).toNat % 32
  · simp only [h, decide_true, cond_true]
    congr 1; omega
  · simp only [h, decide_false, cond_false, hk, decide_true, Bool.true_and]
    congr 1; omega
theorem rotI_rotI (X : BitVec 32) (i j : Int) : rotI (rotI X i) j = rotI X (i + j) := by
  apply BitVec.eq_of_getLsbD_eq
  intro k hk
  rw [rotI_bit _ _ _ hk, rotI_bit _ _ _ hk, rotI_bit _ _ _ (by omega)]
  congr 1; omega
theorem rotI_zero (X : BitVec 32) (i : Int) (h : i % 32 = 0) : rotI X i = X := by
  apply BitVec.eq_of_getLsbD_eq
  intro k hk
  rw [rotI_bit _ _ _ hk]
  congr 1; omega
/-! ### Get of what was put -/
theorem cutB_app (xs ys : List (BitVec 8)) (k : Nat) (h : ys.length = k) : cutB (xs ++ ys) xs.length k = ys := by
  unfold cutB
  rw [List.drop_left, List.take_of_length_le (by omega)]
theorem ordB_putW (big : Bool) (n : BitVec 64) (k : Nat) : ordB big (putW big n k) = (putL n k).reverse := by
  cases big <;> simp [ordB, putW]
theorem putL_succ (n : BitVec 64) (k : Nat) : putL n (k + 1) = n.setWidth 8 :: putL (n >>> 8) k := by
  unfold putL
  rw [List.range_succ_eq_map, List.map_cons, List.map_map]
  refine congr (congrArg _ (by simp)) (List.map_congr_left fun i _ => ?_)
  simp only [Function.comp]
  rw [← BitVec.shiftRight_add]
  congr 2
  omega
theorem getL_putL_bit (k : Nat) : ∀ (n : BitVec 64) (i : Nat), i < 64 → (getL (putL n k).reverse).getLsbD i = (decide (i < 8 * k) && n.getLsbD i) := by
  induction k with
  | zero => intro n i _; simp [putL, getL]
  | succ k ih =>
    intro n i hi
    rw [putL_succ, List.reverse_cons, getL_snoc, BitVec.getLsbD_or, BitVec.getLsbD_shiftLeft, BitVec.getLsbD_setWidth, BitVec.getLsbD_setWidth]
    by_cases h : i < 8
    · have h2 : i < 8 * (k + 1) := by omega
      simp [h, h2, hi]
    · rw [ih _ _ (by omega), BitVec.getLsbD_ushiftRight]
      have h2 : (i - 8 < 8 * k) = (i < 8 * (k + 1)) := by simp; omega
      have h3 : 8 + (i - 8) = i := by omega
      simp [h, hi, h2, h3]
def maskN (n : BitVec 64) (m : Nat) : BitVec 64 := n &&& (1#64 <<< m - 1#64)
theorem mask_bit (m i : Nat) (hm : m < 64) : (1#64 <<< m - 1#64).getLsbD i = decide (i < m) := by
  have h1 : 2 ^ m ≤ 2 ^ 63 := Nat.pow_le_pow_right (by decide) (by omega)
  have h0 : 0 < 2 ^ m := Nat.two_pow_pos m
  have h2 : (1#64 <<< m - 1#64).toNat = 2 ^ m - 1 := by
    rw [BitVec.toNat_sub, BitVec.toNat_shiftLeft, BitVec.toNat_ofNat, Nat.shiftLeft_eq]
    rw [Nat.mod_eq_of_lt (show (1 % 2 ^ 64) * 2 ^ m < 2 ^ 64 by omega)]
    omega
  rw [BitVec.getLsbD, h2, Nat.testBit_two_pow_sub_one]
theorem getL_putL (k : Nat) (n : BitVec 64) (hk : k < 8) : getL (putL n k).reverse = n &&& (1#64 <<< (8 * k) - 1#64) := by
  apply BitVec.eq_of_getLsbD_eq
  intro i hi
  rw [getL_putL_bit k n i hi, BitVec.getLsbD_and, mask_bit _ _ (by omega), Bool.and_comm]
theorem getL_putL8 (n : BitVec 64) : getL (putL n 8).reverse = n := by
  apply BitVec.eq_of_getLsbD_eq
  intro i hi
  rw [getL_putL_bit 8 n i hi]
  have : i < 8 * 8 := by omega
  simp [this]
theorem getW_putW (big : Bool) (n : BitVec 64) (xs : List (BitVec 8)) (k : Nat) : getW big (xs ++ putW big n k) xs.length k = getL (putL n k).reverse := by
  unfold getW
  rw [cutB_app _ _ _ (putW_len big n k), ordB_putW]
/-! ### The sum of bytes and of their own sum -/
theorem low_one (x : BitVec 32) : x &&& 1#32 = if x.getLsbD 0 then 1#32 else 0#32 := by
  apply BitVec.eq_of_getLsbD_eq
  intro i hi
  rw [BitVec.getLsbD_and, BitVec.getLsbD_one]
  by_cases h : i = 0
  · subst h; cases x.getLsbD 0 <;> simp
  · cases x.getLsbD 0 <;> simp [h]
theorem crcBit_eq (x : BitVec 32) : crcBit x = x >>> 1 ^^^ (if x.getLsbD 0 then 3988292384#32 else 0#32) := by
  unfold crcBit
  rw [low_one]
  cases x.getLsbD 0
  · simp
  · simp only [if_true]
    congr 1
theorem crcBit_xor (x y : BitVec 32) : crcBit (x ^^^ y) = crcBit x ^^^ crcBit y := by
  rw [crcBit_eq, crcBit_eq, crcBit_eq, BitVec.getLsbD_xor, BitVec.ushiftRight_xor_distrib]
  generalize x >>> 1 = a
  generalize y >>> 1 = b
  generalize 3988292384#32 = p
  have e1 : (a ^^^ p) ^^^ (b ^^^ p) = a ^^^ b := by rw [BitVec.xor_comm b p, ← BitVec.xor_assoc, BitVec.xor_assoc a p p, BitVec.xor_self, BitVec.xor_zero]
  have e2 : (a ^^^ p) ^^^ b = a ^^^ b ^^^ p := by rw [BitVec.xor_assoc, BitVec.xor_comm p b, ← BitVec.xor_assoc]
  cases x.getLsbD 0 <;> cases y.getLsbD 0 <;> simp [e1, e2, BitVec.xor_assoc]
theorem rep_xor (x y : BitVec 32) (k : Nat) : rep crcBit k (x ^^^ y) = rep crcBit k x ^^^ rep crcBit k y := by
  induction k with
  | zero => rfl
  | succ k ih => rw [rep, ih, crcBit_xor]; rfl
theorem rep_up (y : BitVec 32) (k : Nat) (hk : k ≤ 8) : rep crcBit k (y <<< 8) = (y <<< 8) >>> k := by
  induction k with
  | zero => simp [rep]
  | succ k ih =>
    rw [rep, ih (by omega), crcBit_eq]
    have : ((y <<< 8) >>> k).getLsbD 0 = false := by
      rw [BitVec.getLsbD_ushiftRight, BitVec.getLsbD_shiftLeft]
      have : k < 8 := by omega
      simp [this]
    rw [this, BitVec.shiftRight_add]
    simp
def crcK : Nat → BitVec 32
  | 0 => 0#32
  | k + 1 => rep crcBit 8 (255#32 ^^^ crcK k)
theorem crc_own_step (c : BitVec 32) (j : Nat) (hj : j < 4) : crcByte (c >>> (8 * j) ^^^ crcK j) (((~~~ c).setWidth 64 >>> (8 * j)).setWidth 8) = c >>> (8 * (j + 1)) ^^^ crcK (j + 1) := by
  have h1 : c >>> (8 * j) ^^^ (((~~~ c).setWidth 64 >>> (8 * j)).setWidth 8).setWidth 32 = (c >>> (8 * (j + 1))) <<< 8 ^^^ 255#32 := by
    apply BitVec.eq_of_getLsbD_eq
    intro i hi
    have h255 : (255#32).getLsbD i = decide (i < 8) := by
      rw [BitVec.getLsbD, show (255#32).toNat = 2 ^ 8 - 1 from rfl, Nat.testBit_two_pow_sub_one]
    rw [BitVec.getLsbD_xor, BitVec.getLsbD_xor, h255, BitVec.getLsbD_ushiftRight, BitVec.getLsbD_setWidth, BitVec.getLsbD_setWidth, BitVec.getLsbD_ushiftRight, BitVec.getLsbD_setWidth, BitVec.getLsbD_not, BitVec.getLsbD_shiftLeft, BitVec.getLsbD_ushiftRight]
    by_cases h : i < 8
    · have h2 : 8 * j + i < 32 := by omega
      have h3 : 8 * j + i < 64 := by omega
      simp only [h, hi, h2, h3, decide_true, Bool.true_and, Bool.not_true, Bool.and_false, Bool.false_xor, Bool.false_and]
      cases c.getLsbD (8 * j + i) <;> rfl
    · have h2 : 8 * (j + 1) + (i - 8) = 8 * j + i := by omega
      simp [h, hi, h2]
  unfold crcByte
  rw [BitVec.xor_assoc, BitVec.xor_comm (crcK j), ← BitVec.xor_assoc, h1, BitVec.xor_assoc, rep_xor, rep_up _ _ (by omega)]
  show _ = _ ^^^ rep crcBit 8 (255#32 ^^^ crcK j)
  congr 1
  apply BitVec.eq_of_getLsbD_eq
  intro i hi
  rw [BitVec.getLsbD_ushiftRight, BitVec.getLsbD_shiftLeft, BitVec.getLsbD_ushiftRight]
  by_cases h : 8 + i < 32
  · simp [h]
  · have : c.getLsbD (8 * (j + 1) + i) = false := BitVec.getLsbD_of_ge _ _ (by omega)
    simp [h, this]
theorem crc_own (xs : List (BitVec 8)) : ~~~ crcL (xs ++ putW false ((~~~ crcL xs).setWidth 64) 4) = 558161692#32 := by
  have h0 : ∀ c : BitVec 32, (putW false ((~~~ c).setWidth 64) 4).foldl crcByte c = crcK 4 := by
    intro c
    have h1 : putW false ((~~~ c).setWidth 64) 4 = [((~~~ c).setWidth 64 >>> (8 * 0)).setWidth 8, ((~~~ c).setWidth 64 >>> (8 * 1)).setWidth 8, ((~~~ c).setWidth 64 >>> (8 * 2)).setWidth 8, ((~~~ c).setWidth 64 >>> (8 * 3)).setWidth 8] := rfl
    have s0 := crc_own_step c 0 (by decide)
    have hc : c >>> (8 * 0) ^^^ crcK 0 = c := by simp [crcK]
    rw [hc] at s0
    rw [h1, List.foldl_cons, s0, List.foldl_cons, crc_own_step c 1 (by decide), List.foldl_cons, crc_own_step c 2 (by decide), List.foldl_cons, crc_own_step c 3 (by decide), List.foldl_nil]
    have : c >>> (8 * (3 + 1)) = 0#32 := by
      apply BitVec.eq_of_getLsbD_eq
      intro i hi
      rw [BitVec.getLsbD_ushiftRight, BitVec.getLsbD_of_ge _ _ (by omega)]
      simp
    rw [this]
    simp
  have h1 : crcL (xs ++ putW false ((~~~ crcL xs).setWidth 64) 4) = crcK 4 := by
    rw [crcL, List.foldl_append]
    exact h0 (crcL xs)
  rw [h1]
  decide +kernel
/-! ### Bytes against each other, twice -/
theorem xorL_twice (xs ys : List (BitVec 8)) (h : xs.length ≤ ys.length) : xorL (xorL xs ys) ys = xs := by
  induction xs generalizing ys with
  | nil => rfl
  | cons x xs ih =>
    cases ys with
    | nil => simp at h
    | cons y ys =>
      show ((x ^^^ y) ^^^ y) :: xorL (xorL xs ys) ys = x :: xs
      rw [ih ys (by simpa using h), BitVec.xor_assoc, BitVec.xor_self, BitVec.xor_zero]
theorem xorL_self (xs : List (BitVec 8)) : xorL xs xs = List.replicate xs.length 0#8 := by
  induction xs with
  | nil => rfl
  | cons x xs ih =>
    show (x ^^^ x) :: xorL xs xs = 0#8 :: List.replicate xs.length 0#8
    rw [ih, BitVec.xor_self]
theorem xorL_comm (xs ys : List (BitVec 8)) : xorL xs ys = xorL ys xs := by
  induction xs generalizing ys with
  | nil => cases ys <;> rfl
  | cons x xs ih =>
    cases ys with
    | nil => rfl
    | cons y ys =>
      show (x ^^^ y) :: xorL xs ys = (y ^^^ x) :: xorL ys xs
      rw [ih ys, BitVec.xor_comm]
end Plain
