/-
  Plain laws for the statements of hatchwaylaw03.
-/
import Derived.Test.YtnhfmmohdiccgaaDoorPlainPolyB
import Derived.Test.YtnhfmmohdiccgaaDoorPlainLaw1
namespace Plain
open Go.Sym
/-! ### The key of the first case -/
def keyUp (i : Nat) : List (BitVec 8) := (List.range 32).map fun j => if 16 ≤ j ∧ j < 16 + i then BitVec.ofNat 8 (j - 16) else 0#8
theorem keyUp_len (i : Nat) : (keyUp i).length = 32 := by simp [keyUp]
theorem keyUp_set : ∀ i, i < 16 → (keyUp i).set (16 + i) (BitVec.ofInt 8 (i : Int)) = keyUp (i + 1) := by decide
theorem keyUp_tag : polyTag (keyUp 16) [97#8, 98#8, 99#8] = [0#8, 1#8, 2#8, 3#8, 4#8, 5#8, 6#8, 7#8, 8#8, 9#8, 10#8, 11#8, 12#8, 13#8, 14#8, 15#8] := by decide +kernel
theorem keyUp_tag1 : polyTag ((keyUp 16).set 0 1#8) [1#8] = [1#8, 2#8, 2#8, 3#8, 4#8, 5#8, 6#8, 7#8, 8#8, 9#8, 10#8, 11#8, 12#8, 13#8, 14#8, 15#8] := by decide +kernel
/-! ### Bytes of a key that do not count -/
theorem andL_set (xs ys : List (BitVec 8)) (i : Nat) (v a m : BitVec 8) (ha : xs[i]? = some a) (hm : ys[i]? = some m) (h : v &&& m = a &&& m) : andL (xs.set i v) ys = andL xs ys := by
  apply List.ext_getElem?
  intro j
  simp only [andL, List.getElem?_zipWith, List.getElem?_set]
  by_cases hij : i = j
  · subst hij
    have hlt : i < xs.length := (List.getElem?_eq_some_iff.1 ha).1
    rw [if_pos rfl, if_pos hlt, ha, hm]
    simp [h]
  · rw [if_neg hij]
theorem polyR_set (key : List (BitVec 8)) (i : Nat) (v a m : BitVec 8) (hi : i < 16) (ha : key[i]? = some a) (hm : maskB[i]? = some m) (h : v &&& m = a &&& m) : polyR (key.set i v) = polyR key := by
  unfold polyR
  rw [List.take_set, andL_set (key.take 16) maskB i v a m (by rw [List.getElem?_take, if_pos hi]; exact ha) hm h]
theorem polyS_set (key : List (BitVec 8)) (i : Nat) (v : BitVec 8) (hi : i < 16) : polyS (key.set i v) = polyS key := by
  unfold polyS cutB
  rw [List.drop_set_of_lt (by omega)]
theorem polyR_set' (key : List (BitVec 8)) (i : Nat) (v : BitVec 8) (hi : 16 ≤ i) : polyR (key.set i v) = polyR key := by
  unfold polyR
  rw [List.take_set, List.set_eq_of_length_le (by rw [List.length_take]; omega)]
theorem mask3 : ∀ i, i < 16 → i % 4 = 3 → maskB[i]? = some 15#8 := by decide
theorem mask4 : ∀ i, i < 16 → 4 ≤ i → i % 4 = 0 → maskB[i]? = some 252#8 := by decide
theorem eight_cases {i : Nat} (h : i < 8) : i = 0 ∨ i = 1 ∨ i = 2 ∨ i = 3 ∨ i = 4 ∨ i = 5 ∨ i = 6 ∨ i = 7 := by omega
theorem free15 (k c : BitVec 8) : (k ^^^ c <<< 4) &&& 15#8 = k &&& 15#8 := by
  apply BitVec.eq_of_getLsbD_eq
  intro i hi
  rw [BitVec.getLsbD_and, BitVec.getLsbD_and, BitVec.getLsbD_xor, BitVec.getLsbD_shiftLeft]
  rcases eight_cases hi with rfl | rfl | rfl | rfl | rfl | rfl | rfl | rfl <;> simp <;> decide
theorem free252 (k c : BitVec 8) : (k ^^^ (c &&& 3#8)) &&& 252#8 = k &&& 252#8 := by
  apply BitVec.eq_of_getLsbD_eq
  intro i hi
  rw [BitVec.getLsbD_and, BitVec.getLsbD_and, BitVec.getLsbD_xor, BitVec.getLsbD_and]
  rcases eight_cases hi with rfl | rfl | rfl | rfl | rfl | rfl | rfl | rfl <;> simp <;> decide
theorem polyTag_len (key b : List (BitVec 8)) : (polyTag key b).length = 16 := tagB_len _
/-! ### A tag as two words -/
theorem tag_low (t : Nat) : getW false (tagB t) 0 8 = BitVec.ofNat 64 t := by
  apply BitVec.eq_of_toNat_eq
  rw [getW_leN _ _ _ (by omega)]
  have : cutB (tagB t) 0 8 = putL (BitVec.ofNat 64 t) 8 := by
    unfold cutB tagB
    rw [List.drop_zero]
    exact List.take_left' (putL_len _ _)
  rw [this, leN_putL]
  simp only [BitVec.toNat_ofNat]
  omega
theorem tag_high (t : Nat) : getW false (tagB t) 8 8 = BitVec.ofNat 64 (t / 18446744073709551616) := by
  apply BitVec.eq_of_toNat_eq
  rw [getW_leN _ _ _ (by omega)]
  have : cutB (tagB t) 8 8 = putL (BitVec.ofNat 64 (t / 18446744073709551616)) 8 := by
    unfold cutB tagB
    rw [List.drop_left' (putL_len _ _)]
    exact List.take_of_length_le (by rw [putL_len]; omega)
  rw [this, leN_putL]
  simp only [BitVec.toNat_ofNat]
  omega
theorem words16 (s : List (BitVec 8)) (h : s.length = 16) : (getW false s 0 8).toNat + 18446744073709551616 * (getW false s 8 8).toNat = leN s := by
  rw [getW_leN _ _ _ (by omega), getW_leN _ _ _ (by omega)]
  have e : s = cutB s 0 8 ++ cutB s 8 8 := by
    rw [← list_split16 s (by omega), List.take_of_length_le (by omega)]
  have h3 : leN s = leN (cutB s 0 8) + 256 ^ 8 * leN (cutB s 8 8) := by
    conv => lhs; rw [e]
    rw [leN_append, cutB_len (by omega)]
  rw [h3]
theorem adds_low (a S : Nat) (p q : BitVec 64) (h : p.toNat + 18446744073709551616 * q.toNat = S) : BitVec.ofNat 64 (a + S) = BitVec.ofNat 64 a + p := by
  apply BitVec.eq_of_toNat_eq
  rw [BitVec.toNat_add, BitVec.toNat_ofNat, BitVec.toNat_ofNat]
  have := p.isLt
  omega
theorem adds_high (a S : Nat) (p q : BitVec 64) (h : p.toNat + 18446744073709551616 * q.toNat = S) :
    BitVec.ofNat 64 ((a + S) / 18446744073709551616) = if BitVec.ofNat 64 a + p < BitVec.ofNat 64 a then BitVec.ofNat 64 (a / 18446744073709551616) + q + 1#64 else BitVec.ofNat 64 (a / 18446744073709551616) + q := by
  have := p.isLt
  have := q.isLt
  have hd : (BitVec.ofNat 64 a + p < BitVec.ofNat 64 a) ↔ 18446744073709551616 ≤ a % 18446744073709551616 + p.toNat := by
    rw [BitVec.lt_def, BitVec.toNat_add, BitVec.toNat_ofNat]
    omega
  split
  · rename_i hc
    rw [hd] at hc
    apply BitVec.eq_of_toNat_eq
    simp only [BitVec.toNat_add, BitVec.toNat_ofNat]
    omega
  · rename_i hc
    rw [hd] at hc
    apply BitVec.eq_of_toNat_eq
    simp only [BitVec.toNat_add, BitVec.toNat_ofNat]
    omega
/-! ### No factor, no text -/
theorem polyAcc_zero (b : List (BitVec 8)) (k : Nat) : polyAcc 0 b k = 0 := by
  cases k with
  | zero => rfl
  | succ k => simp [polyAcc]
theorem andL_zeros (k : Nat) : ∀ ys : List (BitVec 8), leN (andL (List.replicate k 0#8) ys) = 0 := by
  induction k with
  | zero => intro ys; simp [andL, leN]
  | succ k ih =>
    intro ys
    cases ys with
    | nil => simp [andL, leN]
    | cons y ys =>
      have := ih ys
      simp only [andL] at this
      simp [andL, List.replicate_succ, leN, this]
theorem tag_noText (key : List (BitVec 8)) (half : List (BitVec 8)) (hh : half.length = 16) (hs : cutB key 16 16 = half) : polyTag key [] = half := by
  show tagB (polyAcc (polyR key) [] 0 + polyS key) = half
  rw [polyS, hs]
  show tagB (0 + leN half) = half
  rw [Nat.zero_add, ← tagB_eq half hh]
theorem tag_noFactor (key b : List (BitVec 8)) (half : List (BitVec 8)) (hh : half.length = 16) (hs : cutB key 16 16 = half) (hr : polyR key = 0) : polyTag key b = half := by
  rw [polyTag, hr, polyAcc_zero, polyS, hs, Nat.zero_add, ← tagB_eq half hh]
/-! ### Rows that are filled byte by byte -/
def fillAt (key half : List (BitVec 8)) (j : Nat) : List (BitVec 8) := key.take 16 ++ half.take j ++ key.drop (16 + j)
theorem fillAt_zero (key half : List (BitVec 8)) : fillAt key half 0 = key := by simp [fillAt]
theorem fillAt_len (key half : List (BitVec 8)) (j : Nat) (hk : key.length = 32) (hh : half.length = 16) (hj : j ≤ 16) : (fillAt key half j).length = 32 := by simp [fillAt, hk, hh]; omega
theorem fillAt_set (key half : List (BitVec 8)) (j : Nat) (a : BitVec 8) (hk : key.length = 32) (hh : half.length = 16) (hj : j < 16) (ha : half[j]? = some a) : (fillAt key half j).set (16 + j) a = fillAt key half (j + 1) := by
  have h1 : (key.take 16 ++ half.take j).length = 16 + j := by simp [hk, hh]; omega
  have h2 : key.drop (16 + j) = key[16 + j]'(by omega) :: key.drop (16 + j + 1) := List.drop_eq_getElem_cons (by omega)
  have h3 : half.take (j + 1) = half.take j ++ [a] := by rw [List.take_add_one, ha]; rfl
  unfold fillAt
  rw [List.set_append_right _ _ (by omega), h1, Nat.sub_self, h2, List.set_cons_zero, h3, Nat.add_assoc]
  simp
theorem fillAt_all (key half : List (BitVec 8)) (hk : key.length = 32) (hh : half.length = 16) : (fillAt key half 16).take 16 = key.take 16 ∧ cutB (fillAt key half 16) 16 16 = half := by
  have h1 : (key.take 16).length = 16 := by simp [hk]
  have h2 : key.drop (16 + 16) = [] := List.drop_eq_nil_of_le (by omega)
  unfold fillAt cutB
  rw [h2, List.append_nil, List.take_of_length_le (show half.length ≤ 16 by omega)]
  exact ⟨List.take_left' h1, by rw [List.drop_left' h1]; exact List.take_of_length_le (by omega)⟩
def noneAt (key : List (BitVec 8)) (j : Nat) : List (BitVec 8) := fillAt key (List.replicate 16 0#8) j
theorem noneAt_zero (key : List (BitVec 8)) : noneAt key 0 = key := fillAt_zero _ _
theorem noneAt_len (key : List (BitVec 8)) (j : Nat) (hk : key.length = 32) (hj : j ≤ 16) : (noneAt key j).length = 32 := fillAt_len _ _ _ hk (by simp) hj
theorem noneAt_set (key : List (BitVec 8)) (j : Nat) (hk : key.length = 32) (hj : j < 16) : (noneAt key j).set (16 + j) 0#8 = noneAt key (j + 1) :=
  fillAt_set _ _ j _ hk (by simp) hj (by rw [List.getElem?_replicate, if_pos hj])
theorem noneAt_all (key : List (BitVec 8)) (hk : key.length = 32) : polyR (noneAt key 16) = polyR key ∧ polyS (noneAt key 16) = 0 := by
  have h := fillAt_all key (List.replicate 16 0#8) hk (by simp)
  unfold polyR polyS noneAt
  rw [h.1, h.2]
  exact ⟨rfl, leN_zeros 16⟩
def halfAt (key : List (BitVec 8)) (j : Nat) : List (BitVec 8) := (key.drop 16).take j ++ List.replicate (16 - j) 0#8
theorem halfAt_zero (key : List (BitVec 8)) : halfAt key 0 = List.replicate 16 0#8 := by simp [halfAt]
theorem halfAt_len (key : List (BitVec 8)) (j : Nat) (hk : key.length = 32) (hj : j ≤ 16) : (halfAt key j).length = 16 := by simp [halfAt, hk]; omega
theorem halfAt_set (key : List (BitVec 8)) (j : Nat) (a : BitVec 8) (hk : key.length = 32) (hj : j < 16) (ha : key[16 + j]? = some a) : (halfAt key j).set j a = halfAt key (j + 1) := by
  have h1 : ((key.drop 16).take j).length = j := by simp [hk]; omega
  obtain ⟨r, hr⟩ : ∃ r, 16 - j = r + 1 := ⟨15 - j, by omega⟩
  have hr' : 16 - (j + 1) = r := by omega
  unfold halfAt
  rw [List.set_append_right _ _ (by omega), h1, Nat.sub_self, hr, hr', List.replicate_succ, List.set_cons_zero, List.take_add_one, List.getElem?_drop, ha]
  simp
theorem halfAt_all (key : List (BitVec 8)) (hk : key.length = 32) : halfAt key 16 = cutB key 16 16 := by simp [halfAt, cutB]
/-! ### A key that doubles -/
def rowW (X : BitVec 64) (j : Nat) : List (BitVec 8) := putL X j ++ List.replicate (16 - j) 0#8
theorem rowW_zero (X : BitVec 64) : rowW X 0 = List.replicate 16 0#8 := by simp [rowW, putL]
theorem rowW_len (X : BitVec 64) (j : Nat) (hj : j ≤ 8) : (rowW X j).length = 16 := by simp [rowW, putL_len]; omega
theorem putL_snoc (X : BitVec 64) (j : Nat) : putL X (j + 1) = putL X j ++ [(X >>> (8 * j)).setWidth 8] := by
  unfold putL
  rw [List.range_succ, List.map_append]
  rfl
theorem rowW_set (X : BitVec 64) (j : Nat) (hj : j < 8) : (rowW X j).set j ((X >>> (8 * j)).setWidth 8) = rowW X (j + 1) := by
  obtain ⟨r, hr⟩ : ∃ r, 16 - j = r + 1 := ⟨15 - j, by omega⟩
  have hr' : 16 - (j + 1) = r := by omega
  unfold rowW
  rw [List.set_append_right _ _ (by rw [putL_len]; exact Nat.le_refl _), putL_len, Nat.sub_self, hr, hr', List.replicate_succ, List.set_cons_zero, putL_snoc]
  simp
theorem partN_row (X : BitVec 64) : partN (rowW X 8) = X.toNat + 340282366920938463463374607431768211456 := by
  unfold partN
  rw [rowW_len X 8 (by omega), rowW, leN_append, leN_putL, leN_zeros]
  have := X.isLt
  omega
theorem polyAcc_one (r : Nat) (b : List (BitVec 8)) (h : b.length = 16) : polyAcc r b (partsOf b) = partN b * r % 1361129467683753853853498429727072845819 := by
  have e : partsOf b = 1 := by unfold partsOf; omega
  rw [e]
  have h1 : polyAcc r b (0 + 1) = (polyAcc r b 0 + partN (partB b 0)) * r % 1361129467683753853853498429727072845819 := rfl
  have h0 : polyAcc r b 0 = 0 := rfl
  have h2 : polyAcc r b 1 = _ := h1
  rw [h2, h0, Nat.zero_add, partB, Nat.mul_zero, List.drop_zero, List.take_of_length_le (by omega)]
theorem tag_two (X : BitVec 64) : polyTag (2#8 :: List.replicate 31 0#8) (rowW X 8) = tagB (2 * X.toNat + 680564733841876926926749214863536422912) := by
  have hr : polyR (2#8 :: List.replicate 31 0#8) = 2 := by decide
  have hs : polyS (2#8 :: List.replicate 31 0#8) = 0 := by decide
  rw [polyTag, hr, hs, polyAcc_one _ _ (rowW_len X 8 (by omega)), partN_row]
  have := X.isLt
  rw [Nat.mod_eq_of_lt (by omega), show (X.toNat + 340282366920938463463374607431768211456) * 2 + 0 = 2 * X.toNat + 680564733841876926926749214863536422912 by omega]
theorem two_low (X : BitVec 64) : BitVec.ofNat 64 (2 * X.toNat + 680564733841876926926749214863536422912) = 2#64 * X := by
  apply BitVec.eq_of_toNat_eq
  rw [BitVec.toNat_mul, BitVec.toNat_ofNat, BitVec.toNat_ofNat]
  omega
theorem two_high (X : BitVec 64) : BitVec.ofNat 64 ((2 * X.toNat + 680564733841876926926749214863536422912) / 18446744073709551616) = X >>> 63 := by
  apply BitVec.eq_of_toNat_eq
  rw [BitVec.toNat_ushiftRight, BitVec.toNat_ofNat, Nat.shiftRight_eq_div_pow]
  have := X.isLt
  omega
theorem app_putL (s : List (BitVec 8)) (X : BitVec 64) (j : Nat) : (s ++ putL X j).map U8 ++ [U8 ((X >>> (8 * j)).setWidth 8)] = (s ++ putL X (j + 1)).map U8 := by
  rw [putL_snoc, ← List.append_assoc, List.map_append (l₂ := [_])]
  rfl
theorem app_zeros (s : List (BitVec 8)) (X : BitVec 64) (s1 : List (BitVec 8)) (h : s1 = s ++ rowW X 8) : (s ++ putL X 8).map U8 ++ List.replicate 8 (Go.Value.int .u8 0) = s1.map U8 := by
  rw [h, rowW, ← List.append_assoc, List.map_append (l₂ := List.replicate (16 - 8) 0#8), List.map_replicate]
  rfl
/-! ### A key that adds up -/
theorem tag_one (X Y Z : BitVec 64) : polyTag (1#8 :: List.replicate 31 0#8) (rowW X 8 ++ rowW Y 8 ++ rowW Z 8) = tagB (X.toNat + Y.toNat + Z.toNat + 1020847100762815390390123822295304634368) := by
  have hr : polyR (1#8 :: List.replicate 31 0#8) = 1 := by decide
  have hs : polyS (1#8 :: List.replicate 31 0#8) = 0 := by decide
  have lX := rowW_len X 8 (by omega); have lY := rowW_len Y 8 (by omega); have lZ := rowW_len Z 8 (by omega)
  obtain ⟨b, hb⟩ : ∃ b, b = rowW X 8 ++ rowW Y 8 ++ rowW Z 8 := ⟨_, rfl⟩
  have hbl : b.length = 48 := by rw [hb]; simp [lX, lY, lZ]
  have e : partsOf b = 3 := by unfold partsOf; omega
  have p0 : partB b 0 = rowW X 8 := by
    rw [hb, partB, Nat.mul_zero, List.drop_zero, List.append_assoc]
    exact List.take_left' lX
  have p1 : partB b 1 = rowW Y 8 := by
    rw [hb, partB, Nat.mul_one, List.append_assoc, List.drop_left' lX]
    exact List.take_left' lY
  have p2 : partB b 2 = rowW Z 8 := by
    have h2 : (rowW X 8 ++ rowW Y 8).length = 32 := by simp [lX, lY]
    rw [hb, partB, show 16 * 2 = 32 from rfl, List.drop_left' h2]
    exact List.take_of_length_le (by omega)
  have a0 : polyAcc 1 b 0 = 0 := rfl
  have a1 : polyAcc 1 b 1 = (polyAcc 1 b 0 + partN (partB b 0)) * 1 % 1361129467683753853853498429727072845819 := rfl
  have a2 : polyAcc 1 b 2 = (polyAcc 1 b 1 + partN (partB b 1)) * 1 % 1361129467683753853853498429727072845819 := rfl
  have a3 : polyAcc 1 b 3 = (polyAcc 1 b 2 + partN (partB b 2)) * 1 % 1361129467683753853853498429727072845819 := rfl
  have hX := X.isLt; have hY := Y.isLt; have hZ := Z.isLt
  rw [a0, p0, partN_row, Nat.mul_one, Nat.mod_eq_of_lt (by omega)] at a1
  rw [a1, p1, partN_row, Nat.mul_one, Nat.mod_eq_of_lt (by omega)] at a2
  rw [a2, p2, partN_row, Nat.mul_one, Nat.mod_eq_of_lt (by omega)] at a3
  rw [← hb, polyTag, hr, hs, e, a3]
  rw [show 0 + (X.toNat + 340282366920938463463374607431768211456) + (Y.toNat + 340282366920938463463374607431768211456) + (Z.toNat + 340282366920938463463374607431768211456) + 0 = X.toNat + Y.toNat + Z.toNat + 1020847100762815390390123822295304634368 by omega]
theorem one_low (X Y Z : BitVec 64) : BitVec.ofNat 64 (X.toNat + Y.toNat + Z.toNat + 1020847100762815390390123822295304634368) = X + Y + Z := by
  apply BitVec.eq_of_toNat_eq
  simp only [BitVec.toNat_add, BitVec.toNat_ofNat]
  omega
theorem one_high (X Y Z : BitVec 64) : BitVec.ofNat 64 ((X.toNat + Y.toNat + Z.toNat + 1020847100762815390390123822295304634368) / 18446744073709551616) = (if X + Y < X then 1#64 else 0#64) + (if X + Y + Z < X + Y then 1#64 else 0#64) := by
  have hX := X.isLt; have hY := Y.isLt; have hZ := Z.isLt
  have h1 : X + Y < X ↔ 18446744073709551616 ≤ X.toNat + Y.toNat := by
    rw [BitVec.lt_def, BitVec.toNat_add]
    omega
  have h2 : X + Y + Z < X + Y ↔ 18446744073709551616 ≤ (X.toNat + Y.toNat) % 18446744073709551616 + Z.toNat := by
    rw [BitVec.lt_def, BitVec.toNat_add, BitVec.toNat_add]
    omega
  simp only [h1, h2]
  apply BitVec.eq_of_toNat_eq
  have e1 : (1#64).toNat = 1 := rfl
  have e0 : (0#64).toNat = 0 := rfl
  split <;> split <;> simp only [BitVec.toNat_add, BitVec.toNat_ofNat, e1, e0] <;> omega
end Plain
