/-
  Plain laws of hatchwayref03, on: sums, products, parts, remainders.
-/
import Derived.Test.YtgkndcincgpmdaaPlainRef3
namespace Plain
open Go.Sym
/-- None of them is greater. -/
def Bnd (xs : List Nat) (k : Nat) : Prop := ∀ x ∈ xs, x ≤ k
theorem Bnd.set {xs : List Nat} {k k' v i : Nat} (h : Bnd xs k) (hk : k ≤ k') (hv : v ≤ k') : Bnd (xs.set i v) k' := fun y hy => by
  rcases List.mem_or_eq_of_mem_set hy with hy | rfl
  · exact Nat.le_trans (h y hy) hk
  · exact hv
theorem Bnd.zeros (n k : Nat) : Bnd (List.replicate n 0) k := fun y hy => by
  rw [List.eq_of_mem_replicate hy]; exact Nat.zero_le _
theorem Bnd.mono {xs : List Nat} {k k' : Nat} (h : Bnd xs k) (hk : k ≤ k') : Bnd xs k' := fun y hy => Nat.le_trans (h y hy) hk
theorem num_add (xs : List Nat) (i a x : Nat) (h : xs[i]? = some a) : num (xs.set i (a + x)) = num xs + 256 ^ i * x := by
  have := num_set xs i (a + x) a h
  rw [Nat.mul_add] at this
  omega
theorem mem_get {xs : List Nat} {i a : Nat} (h : xs[i]? = some a) : a ∈ xs := List.mem_of_getElem? h
/-! ### A product, row by row -/
def prodTo (xs ys : List Nat) (i k : Nat) : Nat := num (xs.take i) * num ys + 256 ^ i * (xs.getD i 0) * num (ys.take k)
theorem prodTo_step (xs ys : List Nat) (i k a b : Nat) (ha : xs[i]? = some a) (hb : ys[k]? = some b) : prodTo xs ys i (k + 1) = prodTo xs ys i k + 256 ^ (i + k) * (a * b) := by
  unfold prodTo
  rw [num_take_succ ys k b hb, List.getD_eq_getElem?_getD, ha]
  simp only [Option.getD_some]
  rw [Nat.pow_add]
  grind
theorem prodTo_row (xs ys : List Nat) (i a : Nat) (ha : xs[i]? = some a) : prodTo xs ys i ys.length = prodTo xs ys (i + 1) 0 := by
  unfold prodTo
  rw [num_take_succ xs i a ha, List.take_of_length_le (Nat.le_refl _), List.getD_eq_getElem?_getD, ha]
  simp only [Option.getD_some, List.take_zero, num]
  grind
theorem prodTo_zero (xs ys : List Nat) : prodTo xs ys 0 0 = 0 := by simp [prodTo, num]
theorem prodTo_all (xs ys : List Nat) : prodTo xs ys xs.length 0 = num xs * num ys := by
  simp [prodTo, num]
/-! ### Parts -/
def lowP (q r : Nat) (xs : List Nat) (i : Nat) : List Nat := if i ≤ q then xs.take i else xs.take q ++ [xs.getD q 0 % 2 ^ r]
def hiAt (r : Nat) (xs : List Nat) (k : Nat) : Nat := xs.getD k 0 / 2 ^ r + (xs.getD (k + 1) 0 * 2 ^ (8 - r)) % 256
def highP (q r : Nat) (xs : List Nat) (i : Nat) : List Nat := (List.range (i - q)).map fun k => hiAt r xs (q + k)
theorem highP_snoc (q r : Nat) (xs : List Nat) (i : Nat) (h : q ≤ i) : highP q r xs (i + 1) = highP q r xs i ++ [hiAt r xs i] := by
  unfold highP
  rw [show i + 1 - q = (i - q) + 1 by omega, List.range_succ, List.map_append]
  simp [show q + (i - q) = i by omega]
theorem highP_none (q r : Nat) (xs : List Nat) (i : Nat) (h : i ≤ q) : highP q r xs i = [] := by
  unfold highP
  rw [show i - q = 0 by omega]; rfl
theorem lowP_below (q r : Nat) (xs : List Nat) (i a : Nat) (h : i < q) (ha : xs[i]? = some a) : lowP q r xs (i + 1) = lowP q r xs i ++ [a] := by
  unfold lowP
  rw [if_pos (by omega), if_pos (by omega), List.take_add_one, ha]; rfl
theorem lowP_at (q r : Nat) (xs : List Nat) (a : Nat) (ha : xs[q]? = some a) : lowP q r xs (q + 1) = lowP q r xs q ++ [a % 2 ^ r] := by
  unfold lowP
  rw [if_neg (by omega), if_pos (Nat.le_refl _), List.getD_eq_getElem?_getD, ha]; rfl
theorem lowP_above (q r : Nat) (xs : List Nat) (i : Nat) (h : q < i) : lowP q r xs (i + 1) = lowP q r xs i := by
  unfold lowP
  rw [if_neg (by omega), if_neg (by omega)]
theorem lowP_digs (q r : Nat) (xs : List Nat) (i : Nat) (h : Digs xs) (hr : r < 8) : Digs (lowP q r xs i) := by
  unfold lowP
  split
  · exact fun y hy => h y (List.mem_of_mem_take hy)
  · refine Digs.snoc (fun y hy => h y (List.mem_of_mem_take hy)) ?_
    have := Nat.mod_lt (xs.getD q 0) (Nat.two_pow_pos r)
    have : 2 ^ r ≤ 2 ^ 8 := Nat.pow_le_pow_right (by decide) (by omega)
    omega
theorem getD_digs {xs : List Nat} (h : Digs xs) (k : Nat) : xs.getD k 0 < 256 := by
  rw [List.getD_eq_getElem?_getD]
  cases hk : xs[k]? with
  | none => exact (by decide : (0 : Nat) < 256)
  | some a => exact h a (List.mem_of_getElem? hk)
theorem shl_mod (X r : Nat) (hr : r < 8) : (X * 2 ^ (8 - r)) % 256 = 2 ^ (8 - r) * (X % 2 ^ r) := by
  have h : (256 : Nat) = 2 ^ r * 2 ^ (8 - r) := by
    rw [← Nat.pow_add, show r + (8 - r) = 8 by omega]
  rw [h, Nat.mul_mod_mul_right, Nat.mul_comm]
theorem shr_mul (X r : Nat) (hr : r < 8) : X * 2 ^ (8 - r) = 256 * (X / 2 ^ r) + (X * 2 ^ (8 - r)) % 256 := by
  rw [shl_mod X r hr]
  have h : (256 : Nat) = 2 ^ (8 - r) * 2 ^ r := by
    rw [← Nat.pow_add, show 8 - r + r = 8 by omega]
  have h2 := Nat.div_add_mod X (2 ^ r)
  calc X * 2 ^ (8 - r) = 2 ^ (8 - r) * (2 ^ r * (X / 2 ^ r) + X % 2 ^ r) := by rw [h2, Nat.mul_comm]
    _ = _ := by rw [Nat.mul_add, ← Nat.mul_assoc, ← h]
theorem hiAt_lt (r : Nat) (xs : List Nat) (k : Nat) (h : Digs xs) (hr : r < 8) : hiAt r xs k < 256 := by
  unfold hiAt
  rw [shl_mod _ r hr]
  have h1 := getD_digs h k
  have h2 : (256 : Nat) = 2 ^ (8 - r) * 2 ^ r := by rw [← Nat.pow_add, show 8 - r + r = 8 by omega]
  have h3 : xs.getD k 0 / 2 ^ r < 2 ^ (8 - r) := by rw [Nat.div_lt_iff_lt_mul (Nat.two_pow_pos r), ← h2]; exact h1
  have h4 := Nat.mod_lt (xs.getD (k + 1) 0) (Nat.two_pow_pos r)
  generalize xs.getD (k + 1) 0 % 2 ^ r = u at h4
  have h5 : 2 ^ (8 - r) * (u + 1) ≤ 2 ^ (8 - r) * 2 ^ r := Nat.mul_le_mul_left _ (by omega)
  rw [Nat.mul_add, ← h2] at h5
  omega
theorem highP_digs (q r : Nat) (xs : List Nat) (i : Nat) (h : Digs xs) (hr : r < 8) : Digs (highP q r xs i) := fun y hy => by
  obtain ⟨k, _, rfl⟩ := List.mem_map.1 hy
  exact hiAt_lt r xs _ h hr
/-- Digits, turned to the right. -/
def shrL (r : Nat) : List Nat → List Nat
  | [] => []
  | x :: xs => (x / 2 ^ r + (xs.getD 0 0 * 2 ^ (8 - r)) % 256) :: shrL r xs
theorem num_head (xs : List Nat) : ∃ t, num xs = xs.getD 0 0 + 256 * t := by
  cases xs with
  | nil => exact ⟨0, rfl⟩
  | cons x xs => exact ⟨num xs, rfl⟩
theorem num_shrL (r : Nat) (hr : r < 8) : ∀ xs : List Nat, num (shrL r xs) = num xs / 2 ^ r
  | [] => by simp [shrL, num]
  | x :: xs => by
    have ih := num_shrL r hr xs
    obtain ⟨t, ht⟩ := num_head xs
    simp only [shrL, num, ih]
    have h2 : (256 : Nat) = 2 ^ (8 - r) * 2 ^ r := by rw [← Nat.pow_add, show 8 - r + r = 8 by omega]
    have e1 : (x + 256 * num xs) / 2 ^ r = x / 2 ^ r + num xs * 2 ^ (8 - r) := by
      have : x + 256 * num xs = x + num xs * 2 ^ (8 - r) * 2 ^ r := by rw [h2, Nat.mul_comm, Nat.mul_assoc]
      rw [this, Nat.add_mul_div_right _ _ (Nat.two_pow_pos r)]
    have e2 : (num xs * 2 ^ (8 - r)) % 256 = (xs.getD 0 0 * 2 ^ (8 - r)) % 256 := by
      rw [ht, Nat.add_mul, Nat.mul_assoc, Nat.add_mul_mod_self_left]
    rw [e1, ← e2]
    have := shr_mul (num xs) r hr
    omega
theorem shrL_eq (r : Nat) : ∀ (n : Nat) (xs : List Nat) (q : Nat), xs.length = q + n → shrL r (xs.drop q) = (List.range n).map fun k => hiAt r xs (q + k)
  | 0, xs, q, h => by rw [List.drop_eq_nil_of_le (by omega)]; rfl
  | n + 1, xs, q, h => by
    have hq : q < xs.length := by omega
    rw [List.drop_eq_getElem_cons hq, shrL, shrL_eq r n xs (q + 1) (by omega), List.range_succ_eq_map, List.map_cons, List.map_map]
    congr 1
    · unfold hiAt
      have h1 : xs.getD (q + 0) 0 = xs[q] := by rw [List.getD_eq_getElem?_getD, Nat.add_zero, List.getElem?_eq_getElem hq]; rfl
      have h2 : (xs.drop (q + 1)).getD 0 0 = xs.getD (q + 0 + 1) 0 := by
        rw [List.getD_eq_getElem?_getD, List.getD_eq_getElem?_getD, List.getElem?_drop]
      rw [h1, h2]
    · apply List.map_congr_left
      intro k _
      show hiAt r xs (q + 1 + k) = hiAt r xs (q + (k + 1))
      rw [show q + 1 + k = q + (k + 1) by omega]
theorem pow_8 (q : Nat) : (256 : Nat) ^ q = 2 ^ (8 * q) := by rw [show (256 : Nat) = 2 ^ 8 from rfl, ← Nat.pow_mul]
theorem highP_num (q r : Nat) (xs : List Nat) (h : Digs xs) (hr : r < 8) : num (highP q r xs xs.length) = num xs / 2 ^ (8 * q + r) := by
  rcases Nat.le_total xs.length q with hq | hq
  · rw [highP_none q r xs _ hq]
    have h1 := num_lt xs h
    have h2 : 256 ^ xs.length ≤ 2 ^ (8 * q + r) := by rw [pow_8]; exact Nat.pow_le_pow_right (by decide) (by omega)
    rw [Nat.div_eq_of_lt (by omega)]; rfl
  · unfold highP
    rw [← shrL_eq r (xs.length - q) xs q (by omega), num_shrL r hr]
    have h1 := num_append (xs.take q) (xs.drop q)
    rw [List.take_append_drop, List.length_take, Nat.min_eq_left hq] at h1
    have h2 := num_lt (xs.take q) (fun y hy => h y (List.mem_of_mem_take hy))
    rw [List.length_take, Nat.min_eq_left hq] at h2
    rw [Nat.pow_add, ← pow_8, ← Nat.div_div_eq_div_mul, h1, Nat.add_mul_div_left _ _ (Nat.pow_pos (by decide)), Nat.div_eq_of_lt h2, Nat.zero_add]
theorem lowP_num (q r : Nat) (xs : List Nat) (h : Digs xs) (hr : r < 8) : num (lowP q r xs xs.length) = num xs % 2 ^ (8 * q + r) := by
  have hd : Digs (xs.take q) := fun y hy => h y (List.mem_of_mem_take hy)
  rcases Nat.lt_or_ge q xs.length with hq | hq
  · unfold lowP
    rw [if_neg (by omega), num_append, List.length_take, Nat.min_eq_left (by omega)]
    simp only [num, Nat.mul_zero, Nat.add_zero]
    have h1 := num_append (xs.take q) (xs.drop q)
    rw [List.take_append_drop, List.length_take, Nat.min_eq_left (by omega)] at h1
    have h2 := num_lt (xs.take q) hd
    rw [List.length_take, Nat.min_eq_left (by omega)] at h2
    obtain ⟨t, ht⟩ := num_head (xs.drop q)
    have h3 : (xs.drop q).getD 0 0 = xs.getD q 0 := by
      rw [List.getD_eq_getElem?_getD, List.getD_eq_getElem?_getD, List.getElem?_drop]; rfl
    rw [h3] at ht
    have e : num (xs.drop q) % 2 ^ r = xs.getD q 0 % 2 ^ r := by
      have h4 : (256 : Nat) = 2 ^ r * 2 ^ (8 - r) := by rw [← Nat.pow_add, show r + (8 - r) = 8 by omega]
      rw [ht, h4, Nat.mul_assoc, Nat.add_mul_mod_self_left]
    rw [h1, Nat.pow_add, ← pow_8, Nat.mod_mul, Nat.add_mul_mod_self_left, Nat.mod_eq_of_lt h2, Nat.add_mul_div_left _ _ (Nat.pow_pos (by decide)), Nat.div_eq_of_lt h2, Nat.zero_add, e]
  · unfold lowP
    rw [if_pos hq, List.take_of_length_le (Nat.le_refl _)]
    have h1 := num_lt xs h
    have h2 : 256 ^ xs.length ≤ 2 ^ (8 * q + r) := by rw [pow_8]; exact Nat.pow_le_pow_right (by decide) (by omega)
    rw [Nat.mod_eq_of_lt (by omega)]
theorem lowP_len (q r : Nat) (xs : List Nat) (i : Nat) : (lowP q r xs i).length ≤ i + 1 := by
  unfold lowP
  split
  · rw [List.length_take]; omega
  · rw [List.length_append, List.length_take, List.length_singleton]; omega
theorem highP_len (q r : Nat) (xs : List Nat) (i : Nat) : (highP q r xs i).length ≤ i := by
  unfold highP
  rw [List.length_map, List.length_range]; omega
theorem hiAt_two {r : Nat} {xs : List Nat} {i a b : Nat} (ha : xs[i]? = some a) (hb : xs[i + 1]? = some b) : hiAt r xs i = a / 2 ^ r + b * 2 ^ (8 - r) % 256 := by
  unfold hiAt
  rw [List.getD_eq_getElem?_getD, List.getD_eq_getElem?_getD, ha, hb]; rfl
theorem hiAt_one {r : Nat} {xs : List Nat} {i a : Nat} (ha : xs[i]? = some a) (hl : xs.length ≤ i + 1) : hiAt r xs i = a / 2 ^ r := by
  unfold hiAt
  rw [List.getD_eq_getElem?_getD, List.getD_eq_getElem?_getD, ha, List.getElem?_eq_none (by omega)]
  simp
theorem dig_mono {u v : Nat} (h : u ≤ v) : (dig u).length ≤ (dig v).length := by
  refine dig_len (Nat.lt_of_le_of_lt h ?_)
  have := num_lt (dig v) (dig_digs v)
  rwa [num_dig] at this
theorem dig_add {v less k : Nat} (h : (dig v).length ≤ k) (hl : less < 256) : (dig (v + less)).length ≤ k + 1 := by
  refine dig_len ?_
  have h1 := num_lt (dig v) (dig_digs v)
  rw [num_dig] at h1
  have h2 : 256 ^ (dig v).length ≤ 256 ^ k := Nat.pow_le_pow_right (by decide) h
  have h3 : 0 < 256 ^ k := Nat.pow_pos (by decide)
  rw [Nat.pow_succ]
  omega
/-! ### Remainders -/
theorem mod_step (v p less : Nat) (hl : less < p) (h : v / p ≠ 0) : (v % p + v / p * less < v) ∧ (v % p + v / p * less) % (p - less) = v % (p - less) := by
  have h0 := Nat.div_add_mod v p
  generalize v / p = t at *
  generalize v % p = s at *
  have h1 : t * less < t * p := Nat.mul_lt_mul_of_pos_left hl (Nat.pos_of_ne_zero h)
  have h2 : p * t = t * p := Nat.mul_comm _ _
  refine ⟨by omega, ?_⟩
  have h3 : v = s + t * less + (p - less) * t := by
    rw [Nat.sub_mul, Nat.mul_comm less t]; omega
  rw [h3, Nat.add_mul_mod_self_left]
theorem mod_last (v p less : Nat) (hp : 0 < p) (hl : less < p) (h : v / p = 0) (h2 : (v + less) / p ≠ 0) (hs : 2 * less < p) : (v + less) % p = v % (p - less) := by
  have hv : v < p := by
    rcases Nat.lt_or_ge v p with h' | h'
    · exact h'
    · have := Nat.div_pos h' hp
      omega
  have hge : p ≤ v + less := by
    rcases Nat.lt_or_ge (v + less) p with h' | h'
    · rw [Nat.div_eq_of_lt h'] at h2; exact absurd rfl h2
    · exact h'
  rw [Nat.mod_eq_sub_mod hge, Nat.mod_eq_of_lt (by omega), Nat.mod_eq_sub_mod (show v ≥ p - less by omega), Nat.mod_eq_of_lt (by omega)]
  omega
theorem mod_done (v p less : Nat) (hp : 0 < p) (h2 : (v + less) / p = 0) : v = v % (p - less) := by
  have : v + less < p := by
    rcases Nat.lt_or_ge (v + less) p with h' | h'
    · exact h'
    · have := Nat.div_pos h' hp
      omega
  rw [Nat.mod_eq_of_lt (by omega)]
end Plain
