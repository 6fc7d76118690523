/-
  Limbs and bytes.
-/
import Derived.Test.YtgkndcincgpmdaaPlainElemD
import Derived.Test.YtgkndcincgpmdaaPlainPolyB
namespace Plain
open Go Go.Sym
theorem or_num (a b : BitVec 64) (s t : Nat) (ht : t ≤ 64) (ha : a.toNat / 2 ^ s < 2 ^ t) : ((a >>> s) ||| (b <<< t)).toNat = a.toNat / 2 ^ s + 2 ^ t * (b.toNat % 2 ^ (64 - t)) := by
  rw [BitVec.toNat_or, BitVec.toNat_ushiftRight, BitVec.toNat_shiftLeft, Nat.shiftRight_eq_div_pow, Nat.shiftLeft_eq]
  have h : b.toNat * 2 ^ t % 2 ^ 64 = 2 ^ t * (b.toNat % 2 ^ (64 - t)) := by
    have e : (2 : Nat) ^ 64 = 2 ^ t * 2 ^ (64 - t) := by rw [← Nat.pow_add]; congr 1; omega
    rw [e, Nat.mul_comm, Nat.mul_mod_mul_left]
  rw [h, Nat.or_comm, ← Nat.two_pow_add_eq_or_of_lt ha, Nat.add_comm]
theorem words_num (l : List (BitVec 64)) (hl : l.length = 5) (hb : ∀ x ∈ l, x.toNat < 2251799813685248) :
    (wordOf l 0).toNat + 18446744073709551616 * ((wordOf l 1).toNat + 18446744073709551616 * ((wordOf l 2).toNat + 18446744073709551616 * (wordOf l 3).toNat)) = num5 l := by
  obtain ⟨a, b, c, d, e, rfl⟩ := list5 l hl
  rw [all5] at hb
  have w0 : wordOf [a, b, c, d, e] 0 = a >>> 0 ||| b <<< 51 := rfl
  have w1 : wordOf [a, b, c, d, e] 1 = b >>> 13 ||| c <<< 38 := rfl
  have w2 : wordOf [a, b, c, d, e] 2 = c >>> 26 ||| d <<< 25 := rfl
  have w3 : wordOf [a, b, c, d, e] 3 = d >>> 39 ||| e <<< 12 := rfl
  rw [w0, w1, w2, w3, or_num a b 0 51 (by decide) (by omega), or_num b c 13 38 (by decide) (by omega), or_num c d 26 25 (by decide) (by omega), or_num d e 39 12 (by decide) (by omega)]
  simp only [num5]
  omega
theorem bytesTo_num (q : List (BitVec 64)) : leN (bytesTo q 4) = (wordOf q 0).toNat + 18446744073709551616 * ((wordOf q 1).toNat + 18446744073709551616 * ((wordOf q 2).toNat + 18446744073709551616 * (wordOf q 3).toNat)) := by
  have h : bytesTo q 4 = putL (wordOf q 0) 8 ++ (putL (wordOf q 1) 8 ++ (putL (wordOf q 2) 8 ++ putL (wordOf q 3) 8)) := by
    simp only [bytesTo, List.nil_append, List.append_assoc]
  have e : (256 : Nat) ^ 8 = 18446744073709551616 := by decide
  rw [h, leN_append, leN_append, leN_append, putL_len, putL_len, putL_len, leN_putL, leN_putL, leN_putL, leN_putL, e]
  have := (wordOf q 0).isLt; have := (wordOf q 1).isLt; have := (wordOf q 2).isLt; have := (wordOf q 3).isLt
  omega
/-- The bytes of a row of limbs tell the least number. -/
theorem bytesL_num (l : List (BitVec 64)) (hl : l.length = 5) (hb : ∀ x ∈ l, x.toNat < 9223372036854775808) : leN (bytesL l) = num5 l % FP := by
  obtain ⟨h1, h2, h3⟩ := leastL_num l hl hb
  rw [bytesL, bytesTo_num, words_num _ h1 h2, h3]
theorem bytes_el {l : List (BitVec 64)} {v : Nat} (h : El l v) : leN (bytesL l) = v := by
  rw [bytesL_num l h.1 (fun x hx => by have := h.2.1 x hx; omega), h.2.2]
/-- Bytes of a number. -/
def leB (v n : Nat) : List (BitVec 8) := match n with
  | 0 => []
  | n + 1 => BitVec.ofNat 8 v :: leB (v / 256) n
theorem leB_len : ∀ (n v : Nat), (leB v n).length = n
  | 0, _ => rfl
  | n + 1, v => by rw [leB, List.length_cons, leB_len n]
theorem leB_num : ∀ (n v : Nat), v < 256 ^ n → leN (leB v n) = v
  | 0, v, h => by
    have : v = 0 := by simpa using h
    subst this; rfl
  | n + 1, v, h => by
    rw [leB, leN, leB_num n (v / 256) (by rw [Nat.pow_succ] at h; omega), BitVec.toNat_ofNat]
    omega
theorem bytes_eq {l : List (BitVec 64)} {v : Nat} (h : El l v) : bytesL l = leB v 32 := by
  have hv := h.lt
  have e : (256 : Nat) ^ 32 = 115792089237316195423570985008687907853269984665640564039457584007913129639936 := by decide
  exact leN_inj _ _ (by rw [bytesL_len, leB_len]) (by rw [bytes_el h, leB_num 32 v (by rw [e]; simp only [FP] at hv; omega)])
theorem key_words (key : List (BitVec 8)) (hk : key.length = 32) : leN key = (getW false key 0 8).toNat + 18446744073709551616 * ((getW false key 8 8).toNat + 18446744073709551616 * ((getW false key 16 8).toNat + 18446744073709551616 * (getW false key 24 8).toNat)) := by
  rw [getW_leN _ _ _ (by decide), getW_leN _ _ _ (by decide), getW_leN _ _ _ (by decide), getW_leN _ _ _ (by decide)]
  have h : key = cutB key 0 8 ++ (cutB key 8 8 ++ (cutB key 16 8 ++ cutB key 24 8)) := by
    unfold cutB
    rw [List.drop_zero, List.take_of_length_le (l := key.drop 24) (by rw [List.length_drop]; omega)]
    have e1 : key.drop 24 = (key.drop 16).drop 8 := by rw [List.drop_drop]
    have e2 : key.drop 16 = (key.drop 8).drop 8 := by rw [List.drop_drop]
    rw [e1, List.take_append_drop, e2, List.take_append_drop, List.take_append_drop]
  have l0 : (cutB key 0 8).length = 8 := by unfold cutB; rw [List.length_take, List.length_drop]; omega
  have l1 : (cutB key 8 8).length = 8 := by unfold cutB; rw [List.length_take, List.length_drop]; omega
  have l2 : (cutB key 16 8).length = 8 := by unfold cutB; rw [List.length_take, List.length_drop]; omega
  have e : (256 : Nat) ^ 8 = 18446744073709551616 := by decide
  conv => lhs; rw [h]
  rw [leN_append, leN_append, leN_append, l0, l1, l2, e]
theorem fromL_num (key : List (BitVec 8)) (hk : key.length = 32) : (∀ x ∈ fromL key, x.toNat < 2251799813685248) ∧ num5 (fromL key) = leN key % 57896044618658097711785492504343953926634992332820282019728792003956564819968 := by
  rw [key_words key hk]
  obtain ⟨w0, h0⟩ : ∃ w, w = getW false key 0 8 := ⟨_, rfl⟩
  obtain ⟨w1, h1⟩ : ∃ w, w = getW false key 8 8 := ⟨_, rfl⟩
  obtain ⟨w2, h2⟩ : ∃ w, w = getW false key 16 8 := ⟨_, rfl⟩
  obtain ⟨w3, h3⟩ : ∃ w, w = getW false key 24 8 := ⟨_, rfl⟩
  have hf : fromL key = [(w0 >>> 0) &&& 2251799813685247#64, (w0 >>> 51 ||| w1 <<< 13) &&& 2251799813685247#64, (w1 >>> 38 ||| w2 <<< 26) &&& 2251799813685247#64, (w2 >>> 25 ||| w3 <<< 39) &&& 2251799813685247#64, (w3 >>> 12) &&& 2251799813685247#64] := by
    rw [h0, h1, h2, h3]; rfl
  rw [← h0, ← h1, ← h2, ← h3, hf, all5]
  have := w0.isLt; have := w1.isLt; have := w2.isLt; have := w3.isLt
  simp only [num5, and51]
  rw [or_num w0 w1 51 13 (by decide) (by omega), or_num w1 w2 38 26 (by decide) (by omega), or_num w2 w3 25 39 (by decide) (by omega), BitVec.toNat_ushiftRight, BitVec.toNat_ushiftRight, Nat.shiftRight_eq_div_pow, Nat.shiftRight_eq_div_pow]
  omega
theorem from_el (key : List (BitVec 8)) (hk : key.length = 32) : El (fromL key) (leN key % 57896044618658097711785492504343953926634992332820282019728792003956564819968 % FP) := by
  obtain ⟨h1, h2⟩ := fromL_num key hk
  exact ⟨fromL_len key, fun x hx => by have := h1 x hx; omega, by rw [h2]⟩
end Plain
