/-
  Plain laws of package poly: numbers of three and of five words of 64 bits.
-/
import Derived.Test.YtgkndcincgpmdaaSymH
namespace Go.Sym
theorem one64 (l : List (BitVec 64)) : ∀ u ∈ l.map U64, u.oneCell' = true := by
  intro u hu
  obtain ⟨b, _, rfl⟩ := List.mem_map.1 hu
  rfl
theorem getU (l : List (BitVec 64)) (j : Nat) (h : j < l.length) : (l.map U64)[j]? = some (U64 (l.getD j 0#64)) := by
  rw [List.getElem?_map, List.getD_eq_getElem?_getD, List.getElem?_eq_getElem h]; rfl
end Go.Sym
namespace Plain
open Go.Sym
/-- The number of some words, the lowest first. -/
def val : List (BitVec 64) → Nat
  | [] => 0
  | x :: l => x.toNat + 18446744073709551616 * val l
/-- A sum, word by word: the words so far, and what is carried. -/
def addSt (a b : List (BitVec 64)) : Nat → List (BitVec 64) × BitVec 64
  | 0 => ([0#64, 0#64, 0#64], 0#64)
  | k + 1 => ((addSt a b k).1.set k (a.getD k 0#64 + b.getD k 0#64 + (addSt a b k).2), cy64 (a.getD k 0#64) (b.getD k 0#64) (addSt a b k).2)
theorem addSt_len (a b : List (BitVec 64)) (k : Nat) : (addSt a b k).1.length = 3 := by
  induction k with
  | zero => rfl
  | succ k ih => rw [addSt, List.length_set, ih]
theorem cy_le (X Y C : BitVec 64) (hC : C.toNat ≤ 1) : (cy64 X Y C).toNat ≤ 1 := by
  rw [cy64_toNat]
  have := X.isLt; have := Y.isLt
  omega
theorem addSt_cy (a b : List (BitVec 64)) (k : Nat) : (addSt a b k).2.toNat ≤ 1 := by
  induction k with
  | zero => exact Nat.zero_le 1
  | succ k ih => exact cy_le _ _ _ ih
theorem list3 (a : List (BitVec 64)) (h : a.length = 3) : ∃ x y z, a = [x, y, z] := by
  match a, h with
  | [x, y, z], _ => exact ⟨x, y, z, rfl⟩
/-- The sum, modulo 2 to the power of 192. -/
theorem addSt_val (a b : List (BitVec 64)) (ha : a.length = 3) (hb : b.length = 3) : val (addSt a b 3).1 = (val a + val b) % 6277101735386680763835789423207666416102355444464034512896 := by
  obtain ⟨x0, x1, x2, rfl⟩ := list3 a ha
  obtain ⟨y0, y1, y2, rfl⟩ := list3 b hb
  obtain ⟨c1, hc1⟩ : ∃ c, c = cy64 x0 y0 0#64 := ⟨_, rfl⟩
  obtain ⟨c2, hc2⟩ : ∃ c, c = cy64 x1 y1 c1 := ⟨_, rfl⟩
  have h : (addSt [x0, x1, x2] [y0, y1, y2] 3).1 = [x0 + y0 + 0#64, x1 + y1 + c1, x2 + y2 + c2] := by rw [hc2, hc1]; rfl
  rw [h]
  have k1 := cy64_toNat x0 y0 0#64
  have k2 := cy64_toNat x1 y1 c1
  rw [← hc1] at k1
  rw [← hc2] at k2
  have e0 : (0#64).toNat = 0 := rfl
  rw [e0] at k1
  simp only [val, sum64_toNat, e0]
  have := x0.isLt; have := x1.isLt; have := x2.isLt; have := y0.isLt; have := y1.isLt; have := y2.isLt
  omega
/-! ### A product of two words -/
def mulHi (X Y : BitVec 64) : BitVec 64 :=
  X >>> 32 * (Y >>> 32) + ((X >>> 32 * (Y &&& 4294967295#64) + ((X &&& 4294967295#64) * (Y &&& 4294967295#64)) >>> 32) >>> 32) +
    (((X >>> 32 * (Y &&& 4294967295#64) + ((X &&& 4294967295#64) * (Y &&& 4294967295#64)) >>> 32) &&& 4294967295#64) + (X &&& 4294967295#64) * (Y >>> 32)) >>> 32
theorem and32 (X : BitVec 64) : (X &&& 4294967295#64).toNat = X.toNat % 4294967296 := by
  rw [BitVec.toNat_and, show (4294967295#64).toNat = 2 ^ 32 - 1 from rfl, Nat.and_two_pow_sub_one_eq_mod]
theorem shr32 (X : BitVec 64) : (X >>> 32).toNat = X.toNat / 4294967296 := by
  rw [BitVec.toNat_ushiftRight, Nat.shiftRight_eq_div_pow]
theorem mulHi_toNat (X Y : BitVec 64) : (mulHi X Y).toNat = X.toNat * Y.toNat / 18446744073709551616 := by
  unfold mulHi
  simp only [BitVec.toNat_add, BitVec.toNat_mul, and32, shr32]
  have hX := X.isLt
  have hY := Y.isLt
  generalize X.toNat = x at hX
  generalize Y.toNat = y at hY
  obtain ⟨a1, ha1⟩ : ∃ a, a = x / 4294967296 := ⟨_, rfl⟩
  obtain ⟨a0, ha0⟩ : ∃ a, a = x % 4294967296 := ⟨_, rfl⟩
  obtain ⟨b1, hb1⟩ : ∃ a, a = y / 4294967296 := ⟨_, rfl⟩
  obtain ⟨b0, hb0⟩ : ∃ a, a = y % 4294967296 := ⟨_, rfl⟩
  rw [← ha1, ← ha0, ← hb1, ← hb0]
  have e1 : x = 4294967296 * a1 + a0 := by omega
  have e2 : y = 4294967296 * b1 + b0 := by omega
  have e3 : x * y = 18446744073709551616 * (a1 * b1) + 4294967296 * (a1 * b0) + 4294967296 * (a0 * b1) + a0 * b0 := by
    rw [e1, e2]; grind
  have m1 : a1 * b1 ≤ 4294967295 * 4294967295 := Nat.mul_le_mul (by omega) (by omega)
  have m2 : a1 * b0 ≤ 4294967295 * 4294967295 := Nat.mul_le_mul (by omega) (by omega)
  have m3 : a0 * b1 ≤ 4294967295 * 4294967295 := Nat.mul_le_mul (by omega) (by omega)
  have m4 : a0 * b0 ≤ 4294967295 * 4294967295 := Nat.mul_le_mul (by omega) (by omega)
  rw [e3]
  generalize a1 * b1 = p11 at *
  generalize a1 * b0 = p10 at *
  generalize a0 * b1 = p01 at *
  generalize a0 * b0 = p00 at *
  omega
theorem mul64_split (X Y : BitVec 64) : 18446744073709551616 * (mulHi X Y).toNat + (X * Y).toNat = X.toNat * Y.toNat := by
  rw [mulHi_toNat, BitVec.toNat_mul]
  omega
/-! ### Numbers of three words, told by the number -/
def nat3 (v : Nat) : List (BitVec 64) := [BitVec.ofNat 64 v, BitVec.ofNat 64 (v / 18446744073709551616), BitVec.ofNat 64 (v / 340282366920938463463374607431768211456)]
theorem nat3_len (v : Nat) : (nat3 v).length = 3 := rfl
theorem nat3_val (v : Nat) (h : v < 6277101735386680763835789423207666416102355444464034512896) : val (nat3 v) = v := by
  simp only [nat3, val, BitVec.toNat_ofNat]
  omega
theorem eq_nat3 (l : List (BitVec 64)) (h : l.length = 3) : l = nat3 (val l) := by
  obtain ⟨x, y, z, rfl⟩ := list3 l h
  have := x.isLt; have := y.isLt; have := z.isLt
  simp only [nat3, val]
  congr 1
  · apply BitVec.eq_of_toNat_eq; rw [BitVec.toNat_ofNat]; omega
  · congr 1
    · apply BitVec.eq_of_toNat_eq; rw [BitVec.toNat_ofNat]; omega
    · congr 1
      apply BitVec.eq_of_toNat_eq; rw [BitVec.toNat_ofNat]; omega
theorem nat3_of (l : List (BitVec 64)) (h : l.length = 3) {v : Nat} (hv : val l = v) : l = nat3 v := by rw [← hv]; exact eq_nat3 l h
theorem addSt_nat3 (x y : Nat) (hx : x < 6277101735386680763835789423207666416102355444464034512896) (hy : y < 6277101735386680763835789423207666416102355444464034512896) :
    (addSt (nat3 x) (nat3 y) 3).1 = nat3 ((x + y) % 6277101735386680763835789423207666416102355444464034512896) :=
  nat3_of _ (addSt_len _ _ _) (by rw [addSt_val _ _ rfl rfl, nat3_val x hx, nat3_val y hy])
/-- One word put in another one's place. -/
theorem val_set : ∀ (p : List (BitVec 64)) (j : Nat) (v : BitVec 64), j < p.length → val (p.set j v) + (p.getD j 0#64).toNat * 18446744073709551616 ^ j = val p + v.toNat * 18446744073709551616 ^ j
  | [], _, _, h => by simp at h
  | x :: l, 0, v, _ => by simp [val]; omega
  | x :: l, j + 1, v, h => by
    have ih := val_set l j v (by simpa using h)
    simp only [List.set_cons_succ, val, List.getD_cons_succ]
    have e1 : (l.getD j 0#64).toNat * 18446744073709551616 ^ (j + 1) = 18446744073709551616 * ((l.getD j 0#64).toNat * 18446744073709551616 ^ j) := by rw [Nat.pow_succ]; grind
    have e2 : v.toNat * 18446744073709551616 ^ (j + 1) = 18446744073709551616 * (v.toNat * 18446744073709551616 ^ j) := by rw [Nat.pow_succ]; grind
    rw [e1, e2]
    omega
/-- A word is added in its place; what is carried goes to the next one. -/
theorem val_add (p : List (BitVec 64)) (j : Nat) (Y C : BitVec 64) (h : j < p.length) :
    val (p.set j (p.getD j 0#64 + Y + C)) + (cy64 (p.getD j 0#64) Y C).toNat * 18446744073709551616 ^ (j + 1) = val p + (Y.toNat + C.toNat) * 18446744073709551616 ^ j := by
  have h1 := val_set p j (p.getD j 0#64 + Y + C) h
  generalize p.getD j 0#64 = X at h1
  have h2 := sum64_toNat X Y C
  have h3 := cy64_toNat X Y C
  generalize (X + Y + C).toNat = s at h1 h2
  generalize (cy64 X Y C).toNat = c at h3
  generalize val (p.set j (X + Y + C)) = v1 at h1
  generalize val p = v0 at h1
  have h4 : X.toNat + Y.toNat + C.toNat = s + 18446744073709551616 * c := by omega
  generalize X.toNat = x at *
  generalize Y.toNat = y at *
  generalize C.toNat = z at *
  rw [Nat.pow_succ]
  generalize 18446744073709551616 ^ j = t at *
  have h5 : (x + y + z) * t = (s + 18446744073709551616 * c) * t := by rw [h4]
  grind
/-! ### The product of three words and two -/
def pp (a r : List (BitVec 64)) (i k : Nat) : Nat := (a.getD i 0#64).toNat * (r.getD k 0#64).toNat * 18446744073709551616 ^ (i + k)
def TT (a r : List (BitVec 64)) : Nat → Nat
  | 0 => 0
  | s + 1 => TT a r s + pp a r (s / 2) (s % 2)
theorem TT_le (a r : List (BitVec 64)) (s d : Nat) : TT a r s ≤ TT a r (s + d) := by
  induction d with
  | zero => exact Nat.le_refl _
  | succ d ih => exact Nat.le_trans ih (by show TT a r (s + d) ≤ TT a r (s + d) + _; omega)
theorem TT_step (a r : List (BitVec 64)) (i k : Nat) (hk : k < 2) : TT a r (2 * i + k + 1) = TT a r (2 * i + k) + pp a r i k := by
  have h1 : (2 * i + k) / 2 = i := by omega
  have h2 : (2 * i + k) % 2 = k := by omega
  rw [TT, h1, h2]
theorem TT_six (a r : List (BitVec 64)) (ha : a.length = 3) (hr : r.length = 2) : TT a r 6 = val a * val r := by
  obtain ⟨a0, a1, a2, rfl⟩ := list3 a ha
  match r, hr with
  | [r0, r1], _ =>
    simp [TT, pp, val]
    grind
/-! ### What is above 2 to the power of 130 is taken five times -/
theorem and3 (X : BitVec 64) : (X &&& 3#64).toNat = X.toNat % 4 := by
  rw [BitVec.toNat_and, show (3#64).toNat = 2 ^ 2 - 1 from rfl, Nat.and_two_pow_sub_one_eq_mod]
theorem andNot3 (X : BitVec 64) : (X &&& ~~~ 3#64).toNat = 4 * (X.toNat / 4) := by
  have h : (X &&& ~~~ 3#64) = (X >>> 2) <<< 2 := by
    apply BitVec.eq_of_getLsbD_eq
    intro i hi
    rw [BitVec.getLsbD_and, BitVec.getLsbD_not, BitVec.getLsbD_shiftLeft, BitVec.getLsbD_ushiftRight]
    have h3 : (3#64).getLsbD i = decide (i < 2) := by rw [BitVec.getLsbD, show (3#64).toNat = 2 ^ 2 - 1 from rfl, Nat.testBit_two_pow_sub_one]
    rw [h3]
    by_cases h : i < 2
    · simp [h, hi]
    · have : 2 + (i - 2) = i := by omega
      simp [h, hi, this]
  rw [h, BitVec.toNat_shiftLeft, BitVec.toNat_ushiftRight, Nat.shiftLeft_eq, Nat.shiftRight_eq_div_pow]
  have := X.isLt
  omega
theorem shr_or (X Y : BitVec 64) : (X >>> 2 ||| Y <<< 62).toNat = X.toNat / 4 + 4611686018427387904 * (Y.toNat % 4) := by
  rw [BitVec.toNat_or, BitVec.toNat_ushiftRight, BitVec.toNat_shiftLeft, Nat.shiftRight_eq_div_pow, Nat.shiftLeft_eq]
  have hX := X.isLt
  have h1 : Y.toNat * 2 ^ 62 % 2 ^ 64 = 2 ^ 62 * (Y.toNat % 4) := by omega
  have h2 : X.toNat / 2 ^ 2 < 2 ^ 62 := by omega
  rw [h1, Nat.or_comm, ← Nat.two_pow_add_eq_or_of_lt h2]
  omega
def lowL (p : List (BitVec 64)) : List (BitVec 64) := [p.getD 0 0#64, p.getD 1 0#64, p.getD 2 0#64 &&& 3#64]
def fourL (p : List (BitVec 64)) : List (BitVec 64) := [p.getD 2 0#64 &&& ~~~ 3#64, p.getD 3 0#64, p.getD 4 0#64]
def oneL (f : List (BitVec 64)) : List (BitVec 64) := [f.getD 0 0#64 >>> 2 ||| f.getD 1 0#64 <<< 62, f.getD 1 0#64 >>> 2 ||| f.getD 2 0#64 <<< 62, f.getD 2 0#64 >>> 2]
theorem foldL_val (p : List (BitVec 64)) (hp : p.length = 5) (h : val p < 115792089237316195423570985008687907853269984665640564039457584007913129639936) :
    lowL p = nat3 (val p % 1361129467683753853853498429727072845824) ∧ fourL p = nat3 (4 * (val p / 1361129467683753853853498429727072845824)) ∧ oneL (fourL p) = nat3 (val p / 1361129467683753853853498429727072845824) := by
  match p, hp with
  | [p0, p1, p2, p3, p4], _ =>
    have := p0.isLt; have := p1.isLt; have := p2.isLt; have := p3.isLt; have := p4.isLt
    have h1 : (p2 >>> 2).toNat = p2.toNat / 4 := by rw [BitVec.toNat_ushiftRight, Nat.shiftRight_eq_div_pow]
    have h4 : (p4 >>> 2).toNat = p4.toNat / 4 := by rw [BitVec.toNat_ushiftRight, Nat.shiftRight_eq_div_pow]
    simp only [val] at h ⊢
    refine ⟨nat3_of _ rfl ?_, nat3_of _ rfl ?_, nat3_of _ rfl ?_⟩
    · simp only [lowL, val, List.getD_cons_zero, List.getD_cons_succ, and3]
      omega
    · simp only [fourL, val, List.getD_cons_zero, List.getD_cons_succ, andNot3]
      omega
    · simp only [oneL, fourL, val, List.getD_cons_zero, List.getD_cons_succ, shr_or, andNot3, h4]
      omega
theorem mul_step (p P1 P2 : List (BitVec 64)) (j : Nat) (A R c1 : BitVec 64) (h : j + 1 < p.length) (hc1 : c1 = cy64 (p.getD j 0#64) (A * R) 0#64) (hP1 : P1 = p.set j (p.getD j 0#64 + A * R + 0#64))
    (hP2 : P2 = P1.set (j + 1) (P1.getD (j + 1) 0#64 + mulHi A R + c1)) :
    val P2 + (cy64 (P1.getD (j + 1) 0#64) (mulHi A R) c1).toNat * 18446744073709551616 ^ (j + 2) = val p + A.toNat * R.toNat * 18446744073709551616 ^ j := by
  have h1 := val_add p j (A * R) 0#64 (by omega)
  have h2 := val_add P1 (j + 1) (mulHi A R) c1 (by rw [hP1, List.length_set]; exact h)
  rw [← hP1, ← hc1] at h1
  rw [← hP2] at h2
  have h3 := mul64_split A R
  have e0 : (0#64).toNat = 0 := rfl
  rw [e0] at h1
  generalize (cy64 (P1.getD (j + 1) 0#64) (mulHi A R) c1).toNat = c2 at h2 ⊢
  generalize val P2 = v2 at h2 ⊢
  generalize val P1 = v1 at h1 h2
  generalize val p = v0 at h1 ⊢
  generalize (mulHi A R).toNat = hi at h2 h3
  generalize (A * R).toNat = lo at h1 h3
  generalize A.toNat * R.toNat = pr at h3 ⊢
  generalize c1.toNat = c at h1 h2
  have e1 : 18446744073709551616 ^ (j + 1) = 18446744073709551616 * 18446744073709551616 ^ j := by rw [Nat.pow_succ, Nat.mul_comm]
  have e2 : 18446744073709551616 ^ (j + 1 + 1) = 18446744073709551616 * 18446744073709551616 ^ (j + 1) := by rw [Nat.pow_succ, Nat.mul_comm]
  rw [show j + 2 = j + 1 + 1 from rfl]
  rw [e2, e1] at h2 ⊢
  rw [e1] at h1
  generalize 18446744073709551616 ^ j = t at *
  subst h3
  grind
/-! ### The least one -/
theorem least_test (v : Nat) (hv : v < 5444517870735015415413993718908291383296) : decide ((nat3 (v + 5)).getD 2 0#64 >>> 2 = 0#64) = decide (v < 1361129467683753853853498429727072845819) := by
  rw [decide_eq_decide]
  have h : ((nat3 (v + 5)).getD 2 0#64 >>> 2).toNat = (v + 5) / 1361129467683753853853498429727072845824 := by
    rw [BitVec.toNat_ushiftRight, Nat.shiftRight_eq_div_pow]
    simp only [nat3, List.getD_cons_zero, List.getD_cons_succ, BitVec.toNat_ofNat]
    omega
  constructor
  · intro h2
    rw [h2] at h
    have : (0#64).toNat = 0 := rfl
    omega
  · intro h2
    apply BitVec.eq_of_toNat_eq
    rw [h, BitVec.toNat_ofNat]
    omega
theorem least_step (v : Nat) (hv : v < 5444517870735015415413993718908291383296) (h : ¬ v < 1361129467683753853853498429727072845819) : (nat3 (v + 5)).set 2 ((nat3 (v + 5)).getD 2 0#64 - 4#64) = nat3 (v - 1361129467683753853853498429727072845819) := by
  refine nat3_of _ rfl ?_
  simp only [nat3, List.getD_cons_zero, List.getD_cons_succ, List.set_cons_succ, List.set_cons_zero, val, BitVec.toNat_sub, BitVec.toNat_ofNat]
  omega
end Plain
