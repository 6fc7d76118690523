/-
  Powers of rows of limbs, the least limbs, as numbers modulo P.
-/
import Derived.Test.YtgkndcincgpmdaaPlainElemC
namespace Plain
open Go Go.Sym
def ElP (l : List (BitVec 64)) (v e : Nat) : Prop := El l (v ^ e % FP)
theorem ElP.mul {l m : List (BitVec 64)} {v a b c : Nat} (hl : ElP l v a) (hm : ElP m v b) (h : a + b = c) : ElP (mulL l m) v c := by
  have h1 := mul_el hl hm
  rw [← Nat.mul_mod, ← Nat.pow_add, h] at h1
  exact h1
theorem ElP.times {l : List (BitVec 64)} {v e : Nat} (hl : ElP l v e) (k : Nat) {c : Nat} (h : e * 2 ^ k = c) : ElP (timesL l k) v c := by
  subst h
  induction k with
  | zero => rw [Nat.pow_zero, Nat.mul_one]; exact hl
  | succ k ih => exact ElP.mul ih ih (by rw [Nat.pow_succ, ← Nat.mul_assoc, Nat.mul_two])
/-- The exponent of what is one over it: P less two. -/
def FE : Nat := 57896044618658097711785492504343953926634992332820282019728792003956564819947
theorem inv_el {l : List (BitVec 64)} {v : Nat} (hl : El l v) : El (invL l) (v ^ FE % FP) := by
  have h0 : ElP l v 1 := by
    unfold ElP
    rw [Nat.pow_one, Nat.mod_eq_of_lt hl.lt]
    exact hl
  have h1 : ElP (x2I l) v 2 := h0.times 1 (by decide)
  have h2 : ElP (x9I l) v 9 := (h1.times 2 (show 2 * 2 ^ 2 = 8 by decide)).mul h0 (by decide)
  have h3 : ElP (x11I l) v 11 := h2.mul h1 (by decide)
  have h4 : ElP (onesI l) v 31 := (h3.times 1 (show 11 * 2 ^ 1 = 22 by decide)).mul h2 (by decide)
  have h5 : ElP (tenI l) v 1023 := (h4.times 5 (show 31 * 2 ^ 5 = 992 by decide)).mul h4 (by decide)
  have h6 : ElP (ten1I l) v 1048575 := (h5.times 10 (show 1023 * 2 ^ 10 = 1047552 by decide)).mul h5 (by decide)
  have h7 : ElP (ten2I l) v 1099511627775 := (h6.times 20 (show 1048575 * 2 ^ 20 = 1099510579200 by decide)).mul h6 (by decide)
  have h8 : ElP (fiftyI l) v 1125899906842623 := (h7.times 10 (show 1099511627775 * 2 ^ 10 = 1125899906841600 by decide)).mul h5 (by decide)
  have h9 : ElP (allI l) v 1267650600228229401496703205375 := (h8.times 50 (show 1125899906842623 * 2 ^ 50 = 1267650600228228275596796362752 by decide)).mul h8 (by decide)
  have h10 : ElP (all2I l) v 1606938044258990275541962092341162602522202993782792835301375 := (h9.times 100 (show 1267650600228229401496703205375 * 2 ^ 100 = 1606938044258990275541962092339894951921974764381296132096000 by decide)).mul h9 (by decide)
  have h11 : ElP (all3I l) v 1809251394333065553493296640760748560207343510400633813116524750123642650623 := (h10.times 50 (show 1606938044258990275541962092341162602522202993782792835301375 * 2 ^ 50 = 1809251394333065553493296640760748560207343510400633813116523624223735808000 by decide)).mul h8 (by decide)
  exact (h11.times 5 (show 1809251394333065553493296640760748560207343510400633813116524750123642650623 * 2 ^ 5 = 57896044618658097711785492504343953926634992332820282019728792003956564819936 by decide)).mul h3 (by decide)
/-! ### The least limbs -/
theorem top_num (l : List (BitVec 64)) (hl : l.length = 5) (hb : ∀ x ∈ l, x.toNat < 9223372036854775808) : (topTo l 5).toNat = (num5 l + 19) / 57896044618658097711785492504343953926634992332820282019728792003956564819968 := by
  obtain ⟨a, b, c, d, e, rfl⟩ := list5 l hl
  rw [all5] at hb
  obtain ⟨c0, h0⟩ : ∃ c0, c0 = (a + 19#64) >>> 51 := ⟨_, rfl⟩
  obtain ⟨c1, h1⟩ : ∃ c1, c1 = (b + c0) >>> 51 := ⟨_, rfl⟩
  obtain ⟨c2, h2⟩ : ∃ c2, c2 = (c + c1) >>> 51 := ⟨_, rfl⟩
  obtain ⟨c3, h3⟩ : ∃ c3, c3 = (d + c2) >>> 51 := ⟨_, rfl⟩
  have ht : topTo [a, b, c, d, e] 5 = (e + c3) >>> 51 := by rw [h3, h2, h1, h0]; rfl
  have n19 : (19#64).toNat = 19 := rfl
  have s0 : c0.toNat = (a.toNat + 19) / 2251799813685248 := by rw [h0, shr51, add_small _ _ (by omega), n19]
  have s1 : c1.toNat = (b.toNat + c0.toNat) / 2251799813685248 := by rw [h1, shr51, add_small _ _ (by omega)]
  have s2 : c2.toNat = (c.toNat + c1.toNat) / 2251799813685248 := by rw [h2, shr51, add_small _ _ (by omega)]
  have s3 : c3.toNat = (d.toNat + c2.toNat) / 2251799813685248 := by rw [h3, shr51, add_small _ _ (by omega)]
  rw [ht, shr51, add_small _ _ (by omega)]
  simp only [num5]
  omega
/-- One step: P is taken away, if it may be. -/
theorem least_num (l : List (BitVec 64)) (hl : l.length = 5) (hb : ∀ x ∈ l, x.toNat < 2251799813685268) :
    (∀ x ∈ (carTo (foldL l) 0#64 5).1, x.toNat < 2251799813685248) ∧ num5 (carTo (foldL l) 0#64 5).1 = if num5 l < FP then num5 l else num5 l - FP := by
  have ht := top_num l hl (fun x hx => by have := hb x hx; omega)
  obtain ⟨t, htt⟩ : ∃ t, t = topTo l 5 := ⟨_, rfl⟩
  rw [← htt] at ht
  have hfl : (foldL l).length = 5 := by rw [foldL, List.length_set, hl]
  have hn : num5 (foldL l) = num5 l + 19 * t.toNat ∧ (∀ x ∈ foldL l, x.toNat < 9223372036854775808) ∧ num5 l < 57896044618658097711785492504343953926634992332820282019728792003956564819968 + 115792089237316195423 * 1000000000000000000000000000000000000000000000000 := by
    unfold foldL
    rw [← htt]
    obtain ⟨a, b, c, d, e, rfl⟩ := list5 l hl
    rw [all5] at hb
    have h1 : [a, b, c, d, e].set 0 ([a, b, c, d, e].getD 0 0#64 + 19#64 * t) = [a + 19#64 * t, b, c, d, e] := rfl
    have h19 : (19#64 * t).toNat = 19 * t.toNat := by
      rw [BitVec.toNat_mul, show (19#64).toNat = 19 from rfl]
      simp only [num5] at ht
      omega
    simp only [num5] at ht
    have h2 : (a + 19#64 * t).toNat = a.toNat + 19 * t.toNat := by rw [add_small _ _ (by omega), h19]
    rw [h1, all5]
    simp only [num5, h2]
    omega
  obtain ⟨g1, g2, g3⟩ := pass_num (foldL l) 0#64 hfl hn.2.1 (by decide)
  have z0 : (0#64).toNat = 0 := rfl
  refine ⟨g2, ?_⟩
  have hlt : num5 (carTo (foldL l) 0#64 5).1 < 57896044618658097711785492504343953926634992332820282019728792003956564819968 := by
    obtain ⟨a, b, c, d, e, he⟩ := list5 (carTo (foldL l) 0#64 5).1 (by rw [carTo_len, hfl])
    rw [he, all5] at g2
    rw [he]
    simp only [num5]
    omega
  rw [z0, hn.1] at g1
  have h3 := hn.2.2
  by_cases h : num5 l < FP
  · rw [if_pos h]
    simp only [FP] at h
    omega
  · rw [if_neg h]
    simp only [FP] at h ⊢
    omega
theorem leastL_num (l : List (BitVec 64)) (hl : l.length = 5) (hb : ∀ x ∈ l, x.toNat < 9223372036854775808) : (leastL l).length = 5 ∧ (∀ x ∈ leastL l, x.toNat < 2251799813685248) ∧ num5 (leastL l) = num5 l % FP := by
  obtain ⟨h1, h2, q, r, h3, _, _⟩ := carried_num l hl hb
  have hlt : num5 (carriedL l) < 2 * FP := by
    obtain ⟨a, b, c, d, e, he⟩ := list5 (carriedL l) h1
    rw [he, all5] at h2
    rw [he]
    simp only [num5, FP]
    omega
  obtain ⟨g1, g2⟩ := least_num (carriedL l) h1 h2
  have gl : (carTo (foldL (carriedL l)) 0#64 5).1.length = 5 := by rw [carTo_len, foldL, List.length_set, h1]
  obtain ⟨k1, k2⟩ := least_num _ gl (fun x hx => by have := g1 x hx; omega)
  have hL : leastL l = (carTo (foldL (carTo (foldL (carriedL l)) 0#64 5).1) 0#64 5).1 := rfl
  refine ⟨by rw [leastL_len, hl], by rw [hL]; exact k1, ?_⟩
  rw [hL, k2, ← h3, Nat.add_mul_mod_self_left]
  by_cases h : num5 (carriedL l) < FP
  · rw [if_pos h] at g2
    rw [g2, if_pos h, Nat.mod_eq_of_lt h]
  · rw [if_neg h] at g2
    have h4 : num5 (carriedL l) - FP < FP := by omega
    rw [g2, if_pos h4, Nat.mod_eq_sub_mod (by omega), Nat.mod_eq_of_lt h4]
end Plain
