/-
  Plain laws of hatchwayref02.
-/
import Derived.Test.YtnhfmmohdiccgaaDoorPlainLaw2
namespace Go.Sym
/-- A word's cell, as a number of 64 bits. -/
abbrev V64 (x : BitVec 32) : Value := U64 (x.setWidth 64)
theorem oneV (l : List (BitVec 32)) : ∀ u ∈ l.map V64, u.oneCell' = true := by
  intro u hu
  obtain ⟨b, _, rfl⟩ := List.mem_map.1 hu
  rfl
theorem getV (l : List (BitVec 32)) (j : Nat) (h : j < l.length) : (l.map V64)[j]? = some (V64 (l.getD j 0#32)) := by
  rw [List.getElem?_map, List.getD_eq_getElem?_getD, List.getElem?_eq_getElem h]; rfl
/-- A number's value under another name. -/
theorem V.eqN {P : Program} {n : Nat} {e : Env} {B : World} {E : List Nat} {L : List Ent} {op : Op} {ty : TypeId} {a b : Nat} (h : a = b) (v : VOp P n e B E L op ty (.int .i64 (a : Int))) : VOp P n e B E L op ty (.int .i64 (b : Int)) := h ▸ v
end Go.Sym
namespace Plain
open Go.Sym
theorem cut_sum (x y : BitVec 32) : (x.setWidth 64 + y.setWidth 64) % 4294967296#64 = (x + y).setWidth 64 := by
  apply BitVec.eq_of_toNat_eq
  rw [BitVec.toNat_umod, BitVec.toNat_add, BitVec.toNat_setWidth, BitVec.toNat_setWidth, BitVec.toNat_setWidth, BitVec.toNat_add]
  have := x.isLt; have := y.isLt
  have e : (4294967296#64).toNat = 4294967296 := rfl
  rw [e]
  omega
theorem cut_xor (x y : BitVec 32) : (x.setWidth 64 ^^^ y.setWidth 64).setWidth 32 = x ^^^ y := by
  apply BitVec.eq_of_toNat_eq
  rw [BitVec.toNat_setWidth, BitVec.toNat_xor, BitVec.toNat_xor, BitVec.toNat_setWidth, BitVec.toNat_setWidth]
  have hx := x.isLt; have hy := y.isLt
  rw [Nat.mod_eq_of_lt (show x.toNat < 2 ^ 64 by omega), Nat.mod_eq_of_lt (show y.toNat < 2 ^ 64 by omega), Nat.mod_eq_of_lt (Nat.xor_lt_two_pow hx hy)]
theorem word64 (b : List (BitVec 8)) (i : Nat) (h : 4 * i + 4 ≤ b.length) : (wordAt b i).setWidth 64 = getW false b (4 * i) 4 := by
  apply BitVec.eq_of_toNat_eq
  unfold wordAt
  have h1 := getW_leN b (4 * i) 4 (by omega)
  have h2 := leN_lt (cutB b (4 * i) 4)
  rw [cutB_len h] at h2
  rw [BitVec.toNat_setWidth, BitVec.toNat_setWidth, h1]
  rw [Nat.mod_eq_of_lt (show leN (cutB b (4 * i) 4) < 2 ^ 32 from h2), Nat.mod_eq_of_lt (Nat.lt_trans h2 (by decide))]
theorem wordsL_take (b : List (BitVec 8)) (i : Nat) (h : 4 * i + 4 ≤ b.length) : (wordsL b).take (i + 1) = (wordsL b).take i ++ [wordAt b i] := by
  rw [List.take_add_one, wordsL_get b i (by omega)]; rfl
theorem put4 (X Y : BitVec 64) (h : X.toNat % 4294967296 = Y.toNat % 4294967296) : putL X 4 = putL Y 4 :=
  leN_inj _ _ (by rw [putL_len, putL_len]) (by rw [leN_putL, leN_putL]; exact h)
theorem put_sum (x y : BitVec 32) : putL (x.setWidth 64 + y.setWidth 64) 4 = putL ((x + y).setWidth 64) 4 := by
  refine put4 _ _ ?_
  rw [BitVec.toNat_add, BitVec.toNat_setWidth, BitVec.toNat_setWidth, BitVec.toNat_setWidth, BitVec.toNat_add]
  have := x.isLt; have := y.isLt
  omega
theorem words_ctr (ctr : BitVec 32) : wordsL (putL (ctr.setWidth 64) 4) = [ctr] := by
  have h : wordAt (putL (ctr.setWidth 64) 4) 0 = ctr := by
    apply BitVec.eq_of_toNat_eq
    unfold wordAt
    rw [BitVec.toNat_setWidth, getW_leN _ _ _ (by omega)]
    have : cutB (putL (ctr.setWidth 64) 4) (4 * 0) 4 = putL (ctr.setWidth 64) 4 := by
      unfold cutB
      rw [Nat.mul_zero, List.drop_zero]
      exact List.take_of_length_le (Nat.le_of_eq (putL_len _ _))
    rw [this, leN_putL, BitVec.toNat_setWidth]
    have := ctr.isLt
    omega
  unfold wordsL
  rw [putL_len]
  show [wordAt (putL (ctr.setWidth 64) 4) 0] = [ctr]
  rw [h]
theorem words_expand : wordsL expandB = [1634760805#32, 857760878#32, 2036477234#32, 1797285236#32] := by decide +kernel
theorem firstL_eq (key : List (BitVec 8)) (ctr : BitVec 32) (nonce : List (BitVec 8)) (hk : key.length = 32) : firstL key ctr nonce = wordsL expandB ++ wordsL key ++ [ctr] ++ wordsL nonce := by
  unfold firstL firstB
  rw [wordsL_append _ nonce 13 (by simp [hk, putL_len, expandB]), wordsL_append _ (putL (ctr.setWidth 64) 4) 12 (by simp [hk, expandB]), wordsL_append expandB key 4 rfl, words_ctr]
theorem qAt_low : ∀ k, k < 4 → (qAt k) = (k, 4 + k, 8 + k, 12 + k) := by decide
theorem qAt_high : ∀ k, k < 4 → (qAt (4 + k)) = (k, 4 + (k + 1) % 4, 8 + (k + 2) % 4, 12 + (k + 3) % 4) := by decide
theorem turn_low (s : W32) (k : Nat) (h : k < 4) : quarterL (turnTo s k) k (4 + k) (8 + k) (12 + k) = turnTo s (k + 1) := by
  rw [turnTo, qAt_low k h]
theorem turn_high (s : W32) (k : Nat) (h : k < 4) : quarterL (turnTo s (4 + k)) k (4 + (k + 1) % 4) (8 + (k + 2) % 4) (12 + (k + 3) % 4) = turnTo s (4 + (k + 1)) := by
  rw [show 4 + (k + 1) = (4 + k) + 1 by omega, turnTo, qAt_high k h]
theorem xor_cut (b blk : List (BitVec 8)) (n : Nat) (hn : blk.length ≤ n ∨ b.length ≤ n) : xorL (b.take n) blk = xorL b blk := by
  apply List.ext_getElem?
  intro j
  rw [xorL, xorL, List.getElem?_zipWith, List.getElem?_zipWith, List.getElem?_take]
  by_cases hj : j < n
  · rw [if_pos hj]
  · rw [if_neg hj]
    rcases hn with hn | hn
    · rw [List.getElem?_eq_none (show blk.length ≤ j by omega)]
      cases b[j]? <;> rfl
    · rw [List.getElem?_eq_none (show b.length ≤ j by omega)]
end Plain
