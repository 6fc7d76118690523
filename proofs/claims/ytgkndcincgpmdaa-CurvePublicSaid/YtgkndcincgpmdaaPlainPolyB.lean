/-
  Plain laws of package poly, on: bytes as numbers, the parts of a text, the tag.
-/
import Derived.Test.YtgkndcincgpmdaaPlainPoly
import Derived.Test.YtgkndcincgpmdaaPlainWords
namespace Plain
open Go.Sym
/-- The number of some bytes, the lowest first. -/
def leN : List (BitVec 8) → Nat
  | [] => 0
  | b :: r => b.toNat + 256 * leN r
theorem leN_append (xs ys : List (BitVec 8)) : leN (xs ++ ys) = leN xs + 256 ^ xs.length * leN ys := by
  induction xs with
  | nil => simp [leN]
  | cons x xs ih =>
    simp only [List.cons_append, leN, ih, List.length_cons, Nat.pow_succ]
    grind
theorem leN_lt (xs : List (BitVec 8)) : leN xs < 256 ^ xs.length := by
  induction xs with
  | nil => simp [leN]
  | cons x xs ih =>
    simp only [leN, List.length_cons, Nat.pow_succ]
    have := x.isLt
    omega
theorem leN_zeros (k : Nat) : leN (List.replicate k 0#8) = 0 := by
  induction k with
  | zero => rfl
  | succ k ih => rw [List.replicate_succ, leN, ih]; rfl
theorem leN_inj : ∀ (xs ys : List (BitVec 8)), xs.length = ys.length → leN xs = leN ys → xs = ys
  | [], [], _, _ => rfl
  | [], _ :: _, h, _ => by simp at h
  | _ :: _, [], h, _ => by simp at h
  | x :: xs, y :: ys, h, he => by
    simp only [leN] at he
    have := x.isLt; have := y.isLt
    have h1 : x.toNat = y.toNat := by omega
    have h2 : leN xs = leN ys := by omega
    rw [BitVec.eq_of_toNat_eq h1, leN_inj xs ys (by simpa using h) h2]
theorem getL_leN : ∀ (l : List (BitVec 8)), l.length ≤ 8 → (getL l.reverse).toNat = leN l
  | [], _ => rfl
  | b :: r, h => by
    have h' : r.length ≤ 7 := by simpa using h
    have ih := getL_leN r (by omega)
    have hlt : leN r < 256 ^ 7 := Nat.lt_of_lt_of_le (leN_lt r) (Nat.pow_le_pow_right (by decide) h')
    rw [List.reverse_cons, getL_snoc, BitVec.toNat_or, BitVec.toNat_shiftLeft, BitVec.toNat_setWidth, ih, Nat.shiftLeft_eq, leN]
    have hb := b.isLt
    have h1 : leN r * 2 ^ 8 % 2 ^ 64 = 2 ^ 8 * leN r := by omega
    have h2 : b.toNat % 2 ^ 64 = b.toNat := Nat.mod_eq_of_lt (by omega)
    rw [h1, h2, ← Nat.two_pow_add_eq_or_of_lt (by omega)]
    omega
theorem getW_leN (xs : List (BitVec 8)) (at0 size : Nat) (h8 : size ≤ 8) : (getW false xs at0 size).toNat = leN (cutB xs at0 size) := by
  unfold getW ordB
  simp only [Bool.false_eq_true, if_false]
  exact getL_leN _ (by simp [cutB]; omega)
theorem and_split (a b u v : Nat) (ha : a < 256) (hb : b < 256) : (a + 256 * u) &&& (b + 256 * v) = (a &&& b) + 256 * (u &&& v) := by
  have hab : a &&& b < 2 ^ 8 := Nat.and_lt_two_pow _ (by omega)
  apply Nat.eq_of_testBit_eq
  intro i
  have e1 : a + 256 * u = 2 ^ 8 * u + a := by omega
  have e2 : b + 256 * v = 2 ^ 8 * v + b := by omega
  have e3 : (a &&& b) + 256 * (u &&& v) = 2 ^ 8 * (u &&& v) + (a &&& b) := by omega
  rw [e1, e2, e3, Nat.testBit_and, Nat.testBit_two_pow_mul_add _ (by omega), Nat.testBit_two_pow_mul_add _ (by omega), Nat.testBit_two_pow_mul_add _ hab]
  split
  · rw [Nat.testBit_and]
  · rw [Nat.testBit_and]
def andL (xs ys : List (BitVec 8)) : List (BitVec 8) := List.zipWith (· &&& ·) xs ys
theorem leN_and : ∀ (xs ys : List (BitVec 8)), xs.length = ys.length → leN xs &&& leN ys = leN (andL xs ys)
  | [], [], _ => rfl
  | [], _ :: _, h => by simp at h
  | _ :: _, [], h => by simp at h
  | x :: xs, y :: ys, h => by
    have ih := leN_and xs ys (by simpa using h)
    simp only [leN, andL, List.zipWith_cons_cons]
    rw [and_split _ _ _ _ x.isLt y.isLt, ih, BitVec.toNat_and]
    rfl
/-! ### The key -/
def maskB : List (BitVec 8) := [255#8, 255#8, 255#8, 15#8, 252#8, 255#8, 255#8, 15#8, 252#8, 255#8, 255#8, 15#8, 252#8, 255#8, 255#8, 15#8]
/-- The factor of a key. -/
def polyR (key : List (BitVec 8)) : Nat := leN (andL (key.take 16) maskB)
/-- What is added last. -/
def polyS (key : List (BitVec 8)) : Nat := leN (cutB key 16 16)
theorem list_split16 (l : List (BitVec 8)) (h : 16 ≤ l.length) : l.take 16 = cutB l 0 8 ++ cutB l 8 8 := by
  unfold cutB
  rw [List.drop_zero]
  rw [show (16 : Nat) = 8 + 8 from rfl, List.take_add]
theorem cut16 (l : List (BitVec 8)) : cutB l 16 16 = cutB l 16 8 ++ cutB l 24 8 := by
  unfold cutB
  rw [show (16 : Nat) = 8 + 8 from rfl, List.take_add, List.drop_drop]
theorem polyR_val (key : List (BitVec 8)) (h : key.length = 32) : val [getW false key 0 8 &&& 1152921487695413247#64, getW false key 8 8 &&& 1152921487695413244#64] = polyR key := by
  have h0 := getW_leN key 0 8 (by omega)
  have h8 := getW_leN key 8 8 (by omega)
  have l0 : (cutB key 0 8).length = 8 := cutB_len (by omega)
  have l8 : (cutB key 8 8).length = 8 := cutB_len (by omega)
  simp only [val, BitVec.toNat_and, h0, h8]
  unfold polyR
  have hm : maskB = [255#8, 255#8, 255#8, 15#8, 252#8, 255#8, 255#8, 15#8] ++ [252#8, 255#8, 255#8, 15#8, 252#8, 255#8, 255#8, 15#8] := rfl
  have e0 : (1152921487695413247#64).toNat = leN [255#8, 255#8, 255#8, 15#8, 252#8, 255#8, 255#8, 15#8] := by decide
  have e8 : (1152921487695413244#64).toNat = leN [252#8, 255#8, 255#8, 15#8, 252#8, 255#8, 255#8, 15#8] := by decide
  rw [e0, e8, leN_and _ _ l0, leN_and _ _ l8, list_split16 key (by omega), hm, andL, andL, andL, List.zipWith_append (by rw [l0]; rfl), leN_append]
  have : (List.zipWith (fun x1 x2 => x1 &&& x2) (cutB key 0 8) [255#8, 255#8, 255#8, 15#8, 252#8, 255#8, 255#8, 15#8]).length = 8 := by simp [l0]
  rw [this]
  omega
theorem and_le_both {a b : Nat} : a &&& b ≤ b := Nat.and_le_right
theorem polyR_lt (key : List (BitVec 8)) (h : key.length = 32) : polyR key < 21267647932558653966460912964485513216 := by
  rw [← polyR_val key h]
  simp only [val, BitVec.toNat_and]
  have h1 : (getW false key 0 8).toNat &&& (1152921487695413247#64).toNat ≤ (1152921487695413247#64).toNat := Nat.and_le_right
  have h2 : (getW false key 8 8).toNat &&& (1152921487695413244#64).toNat ≤ (1152921487695413244#64).toNat := Nat.and_le_right
  have e1 : (1152921487695413247#64).toNat = 1152921487695413247 := rfl
  have e2 : (1152921487695413244#64).toNat = 1152921487695413244 := rfl
  omega
/-! ### The parts of a text -/
def partB (b : List (BitVec 8)) (k : Nat) : List (BitVec 8) := (b.drop (16 * k)).take 16
/-- The number of a part, with a byte 1 behind it. -/
def partN (l : List (BitVec 8)) : Nat := leN l + 256 ^ l.length
def polyAcc (r : Nat) (b : List (BitVec 8)) : Nat → Nat
  | 0 => 0
  | k + 1 => (polyAcc r b k + partN (partB b k)) * r % 1361129467683753853853498429727072845819
def partsOf (b : List (BitVec 8)) : Nat := (b.length + 15) / 16
theorem polyAcc_lt (r : Nat) (b : List (BitVec 8)) (k : Nat) : polyAcc r b k < 1361129467683753853853498429727072845819 := by
  cases k with
  | zero => exact Nat.zero_lt_succ _
  | succ k => exact Nat.mod_lt _ (by decide)
theorem partN_le (l : List (BitVec 8)) (h : l.length ≤ 16) : partN l < 680564733841876926926749214863536422912 := by
  have h1 := leN_lt l
  have h2 : 256 ^ l.length ≤ 256 ^ 16 := Nat.pow_le_pow_right (by decide) h
  unfold partN
  have : (256 : Nat) ^ 16 = 340282366920938463463374607431768211456 := by decide
  omega
/-- The bytes of a part, filled to 24. -/
def partF (l : List (BitVec 8)) : List (BitVec 8) := l ++ 1#8 :: List.replicate (23 - l.length) 0#8
theorem partF_len (l : List (BitVec 8)) (h : l.length ≤ 16) : (partF l).length = 24 := by simp [partF]; omega
theorem partF_leN (l : List (BitVec 8)) : leN (partF l) = partN l := by
  rw [partF, leN_append, leN, leN_zeros]
  show leN l + 256 ^ l.length * (1 + 256 * 0) = partN l
  unfold partN
  omega
theorem three_words (l : List (BitVec 8)) (h : l.length = 24) : [getW false l 0 8, getW false l 8 8, getW false l 16 8] = nat3 (leN l) := by
  apply nat3_of _ rfl
  simp only [val, getW_leN _ _ _ (show (8 : Nat) ≤ 8 by omega)]
  have e : l = cutB l 0 8 ++ (cutB l 8 8 ++ cutB l 16 8) := by
    unfold cutB
    rw [List.drop_zero]
    have h1 : (l.drop 16).take 8 = l.drop 16 := List.take_of_length_le (by simp; omega)
    rw [h1]
    have h2 : (l.drop 8).take 8 ++ l.drop 16 = l.drop 8 := by
      have := List.take_append_drop 8 (l.drop 8)
      rwa [List.drop_drop] at this
    rw [h2, List.take_append_drop]
  have l0 : (cutB l 0 8).length = 8 := cutB_len (by omega)
  have l8 : (cutB l 8 8).length = 8 := cutB_len (by omega)
  have h3 : leN l = leN (cutB l 0 8) + 256 ^ 8 * (leN (cutB l 8 8) + 256 ^ 8 * leN (cutB l 16 8)) := by
    conv => lhs; rw [e]
    rw [leN_append, leN_append, l0, l8]
  rw [h3]
  generalize leN (cutB l 0 8) = a
  generalize leN (cutB l 8 8) = b
  generalize leN (cutB l 16 8) = c
  omega
theorem two_words (key : List (BitVec 8)) (h : key.length = 32) : val [getW false key 16 8, getW false key 24 8] = polyS key := by
  have l0 : (cutB key 16 8).length = 8 := cutB_len (by omega)
  simp only [val, getW_leN _ _ _ (show (8 : Nat) ≤ 8 by omega), polyS]
  rw [cut16, leN_append, l0]
  omega
theorem polyS_lt (key : List (BitVec 8)) (h : key.length = 32) : polyS key < 340282366920938463463374607431768211456 := by
  have := leN_lt (cutB key 16 16)
  rw [cutB_len (by omega)] at this
  exact this
theorem two_words3 (key : List (BitVec 8)) (h : key.length = 32) : [getW false key 16 8, getW false key 24 8, 0#64] = nat3 (polyS key) := by
  apply nat3_of _ rfl
  rw [← two_words key h]
  simp only [val]
  have : (0#64).toNat = 0 := rfl
  omega
theorem partF_set (l : List (BitVec 8)) (q : Nat) (hq : l.length = q) (h : q ≤ 16) : (l ++ List.replicate (24 - q) 0#8).set q 1#8 = partF l := by
  subst hq
  obtain ⟨k, hk⟩ : ∃ k, 24 - l.length = k + 1 := ⟨23 - l.length, by omega⟩
  have hk' : 23 - l.length = k := by omega
  rw [partF, hk, hk', List.set_append_right _ _ (Nat.le_refl _), Nat.sub_self]
  rfl
theorem poly_step {a r n t M : Nat} (hat : a % 1361129467683753853853498429727072845819 = t) (hM : M = (a + n) * r) :
    (M % 1361129467683753853853498429727072845824 + 5 * (M / 1361129467683753853853498429727072845824)) % 1361129467683753853853498429727072845819 = (t + n) * r % 1361129467683753853853498429727072845819 := by
  have h1 : (t + n) * r % 1361129467683753853853498429727072845819 = M % 1361129467683753853853498429727072845819 := by
    subst hat; subst hM
    rw [Nat.mul_mod, Nat.add_mod, Nat.mod_mod, ← Nat.add_mod, ← Nat.mul_mod]
  rw [h1]
  clear h1 hM hat
  omega
theorem poly_bound {a r n M : Nat} (ha : a < 2722258935367507707706996859454145691648) (hn : n ≤ 680564733841876926926749214863536422912) (hr : r < 21267647932558653966460912964485513216) (hM : M = (a + n) * r) :
    M < 115792089237316195423570985008687907853269984665640564039457584007913129639936 ∧ M % 1361129467683753853853498429727072845824 + 5 * (M / 1361129467683753853853498429727072845824) < 2722258935367507707706996859454145691648 := by
  have h1 : M ≤ 3402823669209384634633746074317682114560 * 21267647932558653966460912964485513216 := by
    rw [hM]; exact Nat.mul_le_mul (by omega) (by omega)
  have h2 : M / 1361129467683753853853498429727072845824 ≤ 53169119831396634916152282411213783040 := by omega
  have h3 := Nat.mod_lt M (show 0 < 1361129467683753853853498429727072845824 by decide)
  omega
/-! ### The tag -/
def tagB (t : Nat) : List (BitVec 8) := putL (BitVec.ofNat 64 t) 8 ++ putL (BitVec.ofNat 64 (t / 18446744073709551616)) 8
theorem tagB_len (t : Nat) : (tagB t).length = 16 := by simp [tagB, putL_len]
theorem leN_putL (k : Nat) : ∀ (n : BitVec 64), leN (putL n k) = n.toNat % 256 ^ k := by
  induction k with
  | zero => intro n; simp [putL, leN, Nat.mod_one]
  | succ k ih =>
    intro n
    have h : putL n (k + 1) = n.setWidth 8 :: putL (n >>> 8) k := by
      unfold putL
      rw [List.range_succ_eq_map, List.map_cons, List.map_map]
      congr 1
      apply List.map_congr_left
      intro i _
      simp only [Function.comp_apply]
      rw [← BitVec.shiftRight_add, show 8 * (i + 1) = 8 + 8 * i by omega]
    rw [h, leN, ih, BitVec.toNat_setWidth, BitVec.toNat_ushiftRight, Nat.shiftRight_eq_div_pow]
    have := Nat.mod_mul (x := n.toNat) (a := 256) (b := 256 ^ k)
    have e : 256 ^ (k + 1) = 256 * 256 ^ k := by rw [Nat.pow_succ, Nat.mul_comm]
    rw [e, this]
theorem tagB_leN (t : Nat) : leN (tagB t) = t % 340282366920938463463374607431768211456 := by
  rw [tagB, leN_append, leN_putL, leN_putL, putL_len]
  simp only [BitVec.toNat_ofNat]
  omega
theorem tagB_eq (l : List (BitVec 8)) (h : l.length = 16) : l = tagB (leN l) :=
  leN_inj _ _ (by rw [tagB_len, h]) (by
    rw [tagB_leN, Nat.mod_eq_of_lt]
    have := leN_lt l
    rw [h] at this
    exact this)
theorem tagB_mod (t u : Nat) (h : t % 340282366920938463463374607431768211456 = u % 340282366920938463463374607431768211456) : tagB t = tagB u :=
  leN_inj _ _ (by rw [tagB_len, tagB_len]) (by rw [tagB_leN, tagB_leN, h])
/-- The tag of a text. -/
def polyTag (key b : List (BitVec 8)) : List (BitVec 8) := tagB (polyAcc (polyR key) b (partsOf b) + polyS key)
end Plain
