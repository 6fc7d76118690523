/-
  More of package field, in rows of limbs.
-/
import Derived.Test.YtgkndcincgpmdaaPlainDouble
import Derived.Test.YtgkndcincgpmdaaSymN
namespace Plain
open Go Go.Sym
/-- The first k of the one, the others of the other one. -/
def mixL (l m : List (BitVec 64)) (k : Nat) : List (BitVec 64) := m.take k ++ l.drop k
theorem mixL_len (l m : List (BitVec 64)) (k : Nat) (h : m.length = l.length) (hk : k ≤ l.length) : (mixL l m k).length = l.length := by
  rw [mixL, List.length_append, List.length_take, List.length_drop]; omega
theorem mixL_zero (l m : List (BitVec 64)) : mixL l m 0 = l := rfl
theorem mixL_all (l m : List (BitVec 64)) (h : m.length = l.length) : mixL l m l.length = m := by
  rw [mixL, ← h, List.take_length, h, List.drop_length, List.append_nil]
theorem mixL_get (l m : List (BitVec 64)) (k : Nat) (h : m.length = l.length) (hk : k < l.length) : (mixL l m k).getD k 0#64 = l.getD k 0#64 := by
  rw [List.getD_eq_getElem?_getD, List.getD_eq_getElem?_getD, mixL, List.getElem?_append_right (by rw [List.length_take]; omega), List.length_take, Nat.min_eq_left (by omega), Nat.sub_self, List.getElem?_drop, Nat.add_zero]
theorem mixL_set (l m : List (BitVec 64)) (k : Nat) (h : m.length = l.length) (hk : k < l.length) : (mixL l m k).set k (m.getD k 0#64) = mixL l m (k + 1) := by
  have e : (m.take k).length = k := by rw [List.length_take]; omega
  rw [mixL, List.set_append_right _ _ (by omega), e, Nat.sub_self, mixL, List.take_add_one, List.append_assoc]
  congr 1
  rw [List.getElem?_eq_getElem (by omega), List.drop_eq_getElem_cons hk]
  show m.getD k 0#64 :: _ = _
  rw [List.getD_eq_getElem?_getD, List.getElem?_eq_getElem (by omega)]
  rfl
theorem xor_same (x y : BitVec 64) : x ^^^ (x ^^^ y) = y := by rw [← BitVec.xor_assoc, BitVec.xor_self, BitVec.zero_xor]
theorem xor_other (x y : BitVec 64) : y ^^^ (x ^^^ y) = x := by rw [BitVec.xor_comm x y, ← BitVec.xor_assoc, BitVec.xor_self, BitVec.zero_xor]
def smallL (x : BitVec 32) : List (BitVec 64) := [x.setWidth 64, 0#64, 0#64, 0#64, 0#64]
/-- What is carried out of the limbs and nineteen. -/
def topTo (l : List (BitVec 64)) : Nat → BitVec 64
  | 0 => 19#64
  | k + 1 => (l.getD k 0#64 + topTo l k) >>> 51
def foldL (l : List (BitVec 64)) : List (BitVec 64) := l.set 0 (l.getD 0 0#64 + 19#64 * topTo l 5)
def leastTo (l : List (BitVec 64)) : Nat → List (BitVec 64)
  | 0 => carriedL l
  | k + 1 => (carTo (foldL (leastTo l k)) 0#64 5).1
theorem leastTo_len (l : List (BitVec 64)) (k : Nat) : (leastTo l k).length = l.length := by
  induction k with
  | zero => exact carriedL_len l
  | succ k ih => rw [leastTo, carTo_len, foldL, List.length_set, ih]
def leastL (l : List (BitVec 64)) : List (BitVec 64) := leastTo l 2
theorem leastL_len (l : List (BitVec 64)) : (leastL l).length = l.length := leastTo_len l 2
/-- One over it, by squares and products. -/
def x2I (l : List (BitVec 64)) := timesL l 1
def x9I (l : List (BitVec 64)) := mulL (timesL (x2I l) 2) l
def x11I (l : List (BitVec 64)) := mulL (x9I l) (x2I l)
def onesI (l : List (BitVec 64)) := mulL (timesL (x11I l) 1) (x9I l)
def tenI (l : List (BitVec 64)) := mulL (timesL (onesI l) 5) (onesI l)
def ten1I (l : List (BitVec 64)) := mulL (timesL (tenI l) 10) (tenI l)
def ten2I (l : List (BitVec 64)) := mulL (timesL (ten1I l) 20) (ten1I l)
def fiftyI (l : List (BitVec 64)) := mulL (timesL (ten2I l) 10) (tenI l)
def allI (l : List (BitVec 64)) := mulL (timesL (fiftyI l) 50) (fiftyI l)
def all2I (l : List (BitVec 64)) := mulL (timesL (allI l) 100) (allI l)
def all3I (l : List (BitVec 64)) := mulL (timesL (all2I l) 50) (fiftyI l)
def invL (l : List (BitVec 64)) := mulL (timesL (all3I l) 5) (x11I l)
/-- The words of limbs, and the limbs of words. -/
def wordTo (l : List (BitVec 64)) (i : Nat) : Nat → BitVec 64
  | 0 => l.getD (64 * i / 51) 0#64 >>> (64 * i % 51)
  | _ => l.getD (64 * i / 51) 0#64 >>> (64 * i % 51) ||| l.getD (64 * i / 51 + 1) 0#64 <<< (51 - 64 * i % 51)
def wordOf (l : List (BitVec 64)) (i : Nat) : BitVec 64 := wordTo l i 1
def bytesTo (l : List (BitVec 64)) : Nat → List (BitVec 8)
  | 0 => []
  | k + 1 => bytesTo l k ++ putL (wordOf l k) 8
theorem bytesTo_len (l : List (BitVec 64)) (k : Nat) : (bytesTo l k).length = 8 * k := by
  induction k with
  | zero => rfl
  | succ k ih => rw [bytesTo, List.length_append, ih, putL_len]; omega
def bytesL (l : List (BitVec 64)) : List (BitVec 8) := bytesTo (leastL l) 4
theorem bytesL_len (l : List (BitVec 64)) : (bytesL l).length = 32 := bytesTo_len _ 4
def wordsK (key : List (BitVec 8)) : List (BitVec 64) := [getW false key 0 8, getW false key 8 8, getW false key 16 8, getW false key 24 8]
def limbLow (W : List (BitVec 64)) (i : Nat) : BitVec 64 := W.getD (51 * i / 64) 0#64 >>> (51 * i % 64)
def limbHigh (W : List (BitVec 64)) (i : Nat) : BitVec 64 := limbLow W i ||| W.getD (51 * i / 64 + 1) 0#64 <<< (64 - 51 * i % 64)
def limbOf (W : List (BitVec 64)) (i : Nat) : BitVec 64 := (if 13 < 51 * i % 64 ∧ 51 * i / 64 < 3 then limbHigh W i else limbLow W i) &&& 2251799813685247#64
def limbsTo (W : List (BitVec 64)) : Nat → List (BitVec 64)
  | 0 => List.replicate 5 0#64
  | k + 1 => (limbsTo W k).set k (limbOf W k)
theorem limbsTo_len (W : List (BitVec 64)) (k : Nat) : (limbsTo W k).length = 5 := by
  induction k with
  | zero => rfl
  | succ k ih => rw [limbsTo, List.length_set, ih]
def fromL (key : List (BitVec 8)) : List (BitVec 64) := limbsTo (wordsK key) 5
theorem fromL_len (key : List (BitVec 8)) : (fromL key).length = 5 := limbsTo_len _ 5
theorem set_same (l : List (BitVec 64)) (i : Nat) (h : i < l.length) : (l.map U64).set i (U64 (l.getD i 0#64)) = l.map U64 := by
  rw [← List.map_set]
  congr 1
  apply List.ext_getElem?
  intro j
  rw [List.getElem?_set]
  split
  · rename_i hj
    subst hj
    rw [List.getD_eq_getElem?_getD, List.getElem?_eq_getElem h]
    rfl
  · rfl
def tenK (l : List (BitVec 64)) : Nat → List (BitVec 64)
  | 0 => tenI l
  | 1 => ten1I l
  | _ => ten2I l
theorem wordsK_get (key : List (BitVec 8)) : ∀ k, k < 4 → getW false key (8 * k) 8 = (wordsK key).getD k 0#64
  | 0, _ => rfl
  | 1, _ => rfl
  | 2, _ => rfl
  | 3, _ => rfl
theorem wordTo_one (l : List (BitVec 64)) (i : Nat) : wordTo l i 0 ||| l.getD (64 * i / 51 + 1) 0#64 <<< (51 - 64 * i % 51) = wordTo l i 1 := rfl
/-- What is told so far, with zeros up to 32. -/
def bytesZ (l : List (BitVec 64)) (i : Nat) : List (BitVec 8) := bytesTo l i ++ List.replicate (32 - 8 * i) 0#8
theorem bytesZ_len (l : List (BitVec 64)) (i : Nat) (h : i ≤ 4) : (bytesZ l i).length = 32 := by
  rw [bytesZ, List.length_append, bytesTo_len, List.length_replicate]; omega
theorem bytesZ_put (l : List (BitVec 64)) (i : Nat) (h : i < 4) : (bytesZ l i).take (8 * i) ++ putL (wordOf l i) 8 ++ (bytesZ l i).drop (8 * i + 8) = bytesZ l (i + 1) := by
  have e := bytesTo_len l i
  rw [bytesZ, List.take_append_of_le_length (by omega), List.take_of_length_le (by omega), List.drop_append, List.drop_of_length_le (by omega), List.nil_append, e, List.drop_replicate, bytesZ, bytesTo]
  rw [show 32 - 8 * i - (8 * i + 8 - 8 * i) = 32 - 8 * (i + 1) by omega]
end Plain
