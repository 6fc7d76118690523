/-
  Plain laws of package field: limbs of 51 bits.
-/
import Derived.Test.YtgkndcincgpmdaaPlainPoly
import Derived.Test.YtgkndcincgpmdaaSymM
namespace Plain
open Go.Sym
/-- One pass over the limbs: those so far, and what is carried. -/
def carTo (l : List (BitVec 64)) (c : BitVec 64) : Nat → List (BitVec 64) × BitVec 64
  | 0 => (l, c)
  | i + 1 => ((carTo l c i).1.set i (((carTo l c i).1.getD i 0#64 + (carTo l c i).2) &&& 2251799813685247#64), ((carTo l c i).1.getD i 0#64 + (carTo l c i).2) >>> 51)
theorem carTo_len (l : List (BitVec 64)) (c : BitVec 64) (i : Nat) : (carTo l c i).1.length = l.length := by
  induction i with
  | zero => rfl
  | succ i ih => rw [carTo, List.length_set, ih]
/-- So many passes; what is carried behind the last limb counts nineteen times. -/
def passTo (l : List (BitVec 64)) : Nat → List (BitVec 64) × BitVec 64
  | 0 => (l, 0#64)
  | k + 1 => ((carTo (passTo l k).1 (passTo l k).2 5).1, (carTo (passTo l k).1 (passTo l k).2 5).2 * 19#64)
theorem passTo_len (l : List (BitVec 64)) (k : Nat) : (passTo l k).1.length = l.length := by
  induction k with
  | zero => rfl
  | succ k ih => rw [passTo, carTo_len, ih]
def carriedL (l : List (BitVec 64)) : List (BitVec 64) := (passTo l 2).1.set 0 ((passTo l 2).1.getD 0 0#64 + (passTo l 2).2)
theorem carriedL_len (l : List (BitVec 64)) : (carriedL l).length = l.length := by rw [carriedL, List.length_set, passTo_len]
theorem and51 (X : BitVec 64) : (X &&& 2251799813685247#64).toNat = X.toNat % 2251799813685248 := by
  rw [BitVec.toNat_and, show (2251799813685247#64).toNat = 2 ^ 51 - 1 from rfl, Nat.and_two_pow_sub_one_eq_mod]
theorem shr51 (X : BitVec 64) : (X >>> 51).toNat = X.toNat / 2251799813685248 := by
  rw [BitVec.toNat_ushiftRight, Nat.shiftRight_eq_div_pow]
theorem list5 (a : List (BitVec 64)) (h : a.length = 5) : ∃ v w x y z, a = [v, w, x, y, z] := by
  match a, h with
  | [v, w, x, y, z], _ => exact ⟨v, w, x, y, z, rfl⟩
/-- The number of five limbs. -/
def num5 : List (BitVec 64) → Nat
  | [] => 0
  | x :: l => x.toNat + 2251799813685248 * num5 l
def FP : Nat := 57896044618658097711785492504343953926634992332820282019728792003956564819949
/-- One step of a pass. -/
theorem limb_step (X C : BitVec 64) (h : X.toNat + C.toNat < 18446744073709551616) :
    ((X + C) &&& 2251799813685247#64).toNat + 2251799813685248 * ((X + C) >>> 51).toNat = X.toNat + C.toNat ∧ ((X + C) &&& 2251799813685247#64).toNat < 2251799813685248 := by
  rw [and51, shr51, BitVec.toNat_add, Nat.mod_eq_of_lt h]
  omega
theorem pass_five (a b c d e k : BitVec 64) : carTo [a, b, c, d, e] k 5 =
    (let c0 := (a + k) >>> 51; let c1 := (b + c0) >>> 51; let c2 := (c + c1) >>> 51; let c3 := (d + c2) >>> 51; let c4 := (e + c3) >>> 51
     ([(a + k) &&& 2251799813685247#64, (b + c0) &&& 2251799813685247#64, (c + c1) &&& 2251799813685247#64, (d + c2) &&& 2251799813685247#64, (e + c3) &&& 2251799813685247#64], c4)) := rfl
/-- What a pass does, in numbers. -/
theorem pass_num (l : List (BitVec 64)) (k : BitVec 64) (hl : l.length = 5) (hb : ∀ x ∈ l, x.toNat < 9223372036854775808) (hk : k.toNat < 9223372036854775808) :
    num5 (carTo l k 5).1 + 57896044618658097711785492504343953926634992332820282019728792003956564819968 * (carTo l k 5).2.toNat = num5 l + k.toNat ∧ (∀ x ∈ (carTo l k 5).1, x.toNat < 2251799813685248) ∧ (carTo l k 5).2.toNat ≤ 4096 := by
  obtain ⟨a, b, c, d, e, rfl⟩ := list5 l hl
  simp only [List.mem_cons, List.not_mem_nil, or_false, forall_eq_or_imp, forall_eq] at hb
  obtain ⟨ha, hb, hc, hd, he⟩ := hb
  rw [pass_five]
  simp only [List.mem_cons, List.not_mem_nil, or_false, forall_eq_or_imp, forall_eq, num5]
  have s0 := limb_step a k (by omega)
  generalize (a + k) &&& 2251799813685247#64 = r0 at *
  generalize (a + k) >>> 51 = c0 at *
  have s1 := limb_step b c0 (by omega)
  generalize (b + c0) &&& 2251799813685247#64 = r1 at *
  generalize (b + c0) >>> 51 = c1 at *
  have s2 := limb_step c c1 (by omega)
  generalize (c + c1) &&& 2251799813685247#64 = r2 at *
  generalize (c + c1) >>> 51 = c2 at *
  have s3 := limb_step d c2 (by omega)
  generalize (d + c2) &&& 2251799813685247#64 = r3 at *
  generalize (d + c2) >>> 51 = c3 at *
  have s4 := limb_step e c3 (by omega)
  generalize (e + c3) &&& 2251799813685247#64 = r4 at *
  generalize (e + c3) >>> 51 = c4 at *
  omega
/-- An element: five limbs, each below 2 to the power of 52, that make a number modulo P. -/
def El (l : List (BitVec 64)) (v : Nat) : Prop := l.length = 5 ∧ (∀ x ∈ l, x.toNat < 4503599627370496) ∧ num5 l % FP = v
theorem El.lt {l : List (BitVec 64)} {v : Nat} (h : El l v) : v < FP := by rw [← h.2.2]; exact Nat.mod_lt _ (by decide)
theorem carried_num (l : List (BitVec 64)) (hl : l.length = 5) (hb : ∀ x ∈ l, x.toNat < 9223372036854775808) :
    (carriedL l).length = 5 ∧ (∀ x ∈ carriedL l, x.toNat < 2251799813685268) ∧ (∃ q r, num5 (carriedL l) + FP * (q + r) = num5 l ∧ r ≤ 1 ∧ q ≤ 4096) := by
  obtain ⟨h1, h2, h3⟩ := pass_num l 0#64 hl hb (by decide)
  have e0 : (0#64).toNat = 0 := rfl
  have hl1 : (carTo l 0#64 5).1.length = 5 := by rw [carTo_len, hl]
  have p1 : passTo l 1 = ((carTo l 0#64 5).1, (carTo l 0#64 5).2 * 19#64) := rfl
  have p2 : passTo l 2 = ((carTo (passTo l 1).1 (passTo l 1).2 5).1, (carTo (passTo l 1).1 (passTo l 1).2 5).2 * 19#64) := rfl
  unfold carriedL
  rw [p2, p1]
  simp only
  generalize (carTo l 0#64 5).1 = l1 at *
  generalize (carTo l 0#64 5).2 = k1 at *
  have hk1 : (k1 * 19#64).toNat = k1.toNat * 19 := by
    rw [BitVec.toNat_mul, show (19#64).toNat = 19 from rfl]
    omega
  obtain ⟨g1, g2, g3⟩ := pass_num l1 (k1 * 19#64) hl1 (fun x hx => by have := h2 x hx; omega) (by omega)
  have hl2 : (carTo l1 (k1 * 19#64) 5).1.length = 5 := by rw [carTo_len, hl1]
  have hn1 : num5 l1 < 57896044618658097711785492504343953926634992332820282019728792003956564819968 := by
    obtain ⟨a, b, c, d, e, rfl⟩ := list5 l1 hl1
    simp only [List.mem_cons, List.not_mem_nil, or_false, forall_eq_or_imp, forall_eq] at h2
    simp only [num5]
    omega
  generalize (carTo l1 (k1 * 19#64) 5).1 = l2 at *
  generalize (carTo l1 (k1 * 19#64) 5).2 = k2 at *
  have hk2 : k2.toNat ≤ 1 := by omega
  have hk3 : (k2 * 19#64).toNat = k2.toNat * 19 := by
    rw [BitVec.toNat_mul, show (19#64).toNat = 19 from rfl]
    omega
  obtain ⟨a, b, c, d, e, rfl⟩ := list5 l2 hl2
  simp only [List.mem_cons, List.not_mem_nil, or_false, forall_eq_or_imp, forall_eq] at g2
  have hs : ([a, b, c, d, e].set 0 ([a, b, c, d, e].getD 0 0#64 + k2 * 19#64)) = [a + k2 * 19#64, b, c, d, e] := rfl
  rw [hs]
  have ha : (a + k2 * 19#64).toNat = a.toNat + k2.toNat * 19 := by rw [BitVec.toNat_add, hk3]; omega
  refine ⟨rfl, ?_, k1.toNat, k2.toNat, ?_, hk2, h3⟩
  · simp only [List.mem_cons, List.not_mem_nil, or_false, forall_eq_or_imp, forall_eq, ha]
    omega
  · simp only [num5, ha, FP] at *
    omega
theorem carried_el (l : List (BitVec 64)) (hl : l.length = 5) (hb : ∀ x ∈ l, x.toNat < 9223372036854775808) : El (carriedL l) (num5 l % FP) := by
  obtain ⟨h1, h2, q, r, h3, _, _⟩ := carried_num l hl hb
  refine ⟨h1, fun x hx => by have := h2 x hx; omega, ?_⟩
  rw [← h3, Nat.add_mul_mod_self_left]
end Plain
