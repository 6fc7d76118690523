/-
  Plain laws of hatchwayref03, on: Sum.
-/
import Derived.Test.YtgkndcincgpmdaaPlainRef3b
namespace Plain
open Go.Sym
theorem rem16 (X : BitVec 8) : X % 16#8 = X &&& 15#8 := by
  apply BitVec.eq_of_toNat_eq
  rw [BitVec.toNat_umod, BitVec.toNat_and, show (15#8).toNat = 2 ^ 4 - 1 from rfl, Nat.and_two_pow_sub_one_eq_mod]
  rfl
theorem quo4 (X : BitVec 8) : X / 4#8 * 4#8 = X &&& 252#8 := by
  have h : (X &&& 252#8) = (X >>> 2) <<< 2 := by
    apply BitVec.eq_of_getLsbD_eq
    intro i hi
    rw [BitVec.getLsbD_and, BitVec.getLsbD_shiftLeft, BitVec.getLsbD_ushiftRight]
    have h3 : i = 0 ∨ i = 1 ∨ i = 2 ∨ i = 3 ∨ i = 4 ∨ i = 5 ∨ i = 6 ∨ i = 7 := by omega
    rcases h3 with rfl | rfl | rfl | rfl | rfl | rfl | rfl | rfl <;> simp <;> decide
  rw [h]
  apply BitVec.eq_of_toNat_eq
  rw [BitVec.toNat_mul, BitVec.toNat_udiv, BitVec.toNat_shiftLeft, BitVec.toNat_ushiftRight, Nat.shiftLeft_eq, Nat.shiftRight_eq_div_pow]
  rfl
def stepA (K : List (BitVec 8)) (i : Nat) : List (BitVec 8) := K.mapIdx fun j b => if j % 4 = 3 ∧ j < i then b &&& 15#8 else b
def stepB (K : List (BitVec 8)) (i : Nat) : List (BitVec 8) := K.mapIdx fun j b => if j % 4 = 0 ∧ 4 ≤ j ∧ j < i then b &&& 252#8 else b
theorem stepA_len (K : List (BitVec 8)) (i : Nat) : (stepA K i).length = K.length := by simp [stepA]
theorem stepB_len (K : List (BitVec 8)) (i : Nat) : (stepB K i).length = K.length := by simp [stepB]
theorem stepA_zero (K : List (BitVec 8)) : stepA K 3 = K := by
  apply List.ext_getElem?
  intro j
  rw [stepA, List.getElem?_mapIdx]
  cases K[j]? with
  | none => rfl
  | some b => simp only [Option.map_some]; rw [if_neg (by omega)]
theorem stepB_zero (K : List (BitVec 8)) : stepB K 4 = K := by
  apply List.ext_getElem?
  intro j
  rw [stepB, List.getElem?_mapIdx]
  cases K[j]? with
  | none => rfl
  | some b => simp only [Option.map_some]; rw [if_neg (by omega)]
theorem stepA_get (K : List (BitVec 8)) (i : Nat) : (stepA K i)[i]? = K[i]? := by
  rw [stepA, List.getElem?_mapIdx]
  cases K[i]? with
  | none => rfl
  | some b => simp only [Option.map_some]; rw [if_neg (by omega)]
theorem stepB_get (K : List (BitVec 8)) (i : Nat) : (stepB K i)[i]? = K[i]? := by
  rw [stepB, List.getElem?_mapIdx]
  cases K[i]? with
  | none => rfl
  | some b => simp only [Option.map_some]; rw [if_neg (by omega)]
theorem stepA_set (K : List (BitVec 8)) (i : Nat) (a : BitVec 8) (hi : i % 4 = 3) (ha : K[i]? = some a) : (stepA K i).set i (a % 16#8) = stepA K (i + 4) := by
  apply List.ext_getElem?
  intro j
  rw [List.getElem?_set, stepA_len]
  by_cases hij : i = j
  · subst hij
    rw [if_pos rfl, if_pos (List.getElem?_eq_some_iff.1 ha).1, stepA, List.getElem?_mapIdx, ha, rem16]
    simp only [Option.map_some]
    rw [if_pos (by omega)]
  · rw [if_neg hij, stepA, stepA, List.getElem?_mapIdx, List.getElem?_mapIdx]
    cases K[j]? with
    | none => rfl
    | some b =>
      simp only [Option.map_some]
      have : (j % 4 = 3 ∧ j < i) ↔ (j % 4 = 3 ∧ j < i + 4) := by omega
      simp only [this]
theorem stepB_set (K : List (BitVec 8)) (i : Nat) (a : BitVec 8) (hi : i % 4 = 0) (h4 : 4 ≤ i) (ha : K[i]? = some a) : (stepB K i).set i (a / 4#8 * 4#8) = stepB K (i + 4) := by
  apply List.ext_getElem?
  intro j
  rw [List.getElem?_set, stepB_len]
  by_cases hij : i = j
  · subst hij
    rw [if_pos rfl, if_pos (List.getElem?_eq_some_iff.1 ha).1, stepB, List.getElem?_mapIdx, ha, quo4]
    simp only [Option.map_some]
    rw [if_pos (by omega)]
  · rw [if_neg hij, stepB, stepB, List.getElem?_mapIdx, List.getElem?_mapIdx]
    cases K[j]? with
    | none => rfl
    | some b =>
      simp only [Option.map_some]
      have : (j % 4 = 0 ∧ 4 ≤ j ∧ j < i) ↔ (j % 4 = 0 ∧ 4 ≤ j ∧ j < i + 4) := by omega
      simp only [this]
theorem and255 (b : BitVec 8) : b &&& 255#8 = b := by
  rw [show 255#8 = BitVec.allOnes 8 from by decide, BitVec.and_allOnes]
theorem steps_all (K : List (BitVec 8)) (h : K.length = 16) : stepB (stepA K 19) 16 = andL K maskB := by
  match K, h with
  | [a0, a1, a2, a3, a4, a5, a6, a7, a8, a9, a10, a11, a12, a13, a14, a15], _ =>
    simp [stepA, stepB, andL, maskB, List.mapIdx_cons, and255]
theorem part_eq (b : List (BitVec 8)) (k h : Nat) (hh : h = Nat.min (16 * k + 16) b.length) (hk : 16 * k ≤ b.length) : (b.drop (16 * k)).take (h - 16 * k) = partB b k := by
  unfold partB
  rcases Nat.le_total (16 * k + 16) b.length with h1 | h1
  · rw [hh, show Nat.min (16 * k + 16) b.length = 16 * k + 16 from Nat.min_eq_left h1, Nat.add_sub_cancel_left]
  · rw [hh, show Nat.min (16 * k + 16) b.length = b.length from Nat.min_eq_right h1, List.take_of_length_le (by simp), List.take_of_length_le (by simp; omega)]
theorem leN_one (l : List (BitVec 8)) : leN (l ++ [1#8]) = partN l := by
  rw [leN_append]
  show leN l + 256 ^ l.length * (1 + 256 * 0) = partN l
  unfold partN
  omega
theorem tag_toB (N : Nat) : toB (dig N) 16 = tagB N :=
  leN_inj _ _ (by rw [toB_len, tagB_len]) (by rw [toB_leN _ (dig_digs N), tagB_leN, num_dig])
end Plain
