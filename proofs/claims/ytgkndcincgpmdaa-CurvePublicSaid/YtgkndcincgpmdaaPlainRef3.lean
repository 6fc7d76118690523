/-
  Plain laws of hatchwayref03: numbers as rows of digits to the base of 256, the lowest first.
-/
import Derived.Test.YtgkndcincgpmdaaPlainPolyB
namespace Go.Sym
/-- A natural number's cell. -/
abbrev NV (x : Nat) : Value := .int .i64 (x : Int)
theorem oneN (l : List Nat) : ∀ u ∈ l.map NV, u.oneCell' = true := by
  intro u hu
  obtain ⟨b, _, rfl⟩ := List.mem_map.1 hu
  rfl
end Go.Sym
namespace Plain
open Go.Sym
def num : List Nat → Nat
  | [] => 0
  | x :: r => x + 256 * num r
def trimL : List Nat → List Nat
  | [] => []
  | x :: r => if trimL r = [] ∧ x = 0 then [] else x :: trimL r
theorem trimL_zero : ∀ ys : List Nat, trimL (ys ++ [0]) = trimL ys
  | [] => by simp [trimL]
  | y :: ys => by simp [trimL, trimL_zero ys]
theorem trimL_last (x : Nat) (hx : x ≠ 0) : ∀ ys : List Nat, trimL (ys ++ [x]) = ys ++ [x]
  | [] => by simp [trimL, hx]
  | y :: ys => by simp [trimL, trimL_last x hx ys]
theorem trimL_prefix : ∀ xs : List Nat, ∃ zs, xs = trimL xs ++ zs
  | [] => ⟨[], rfl⟩
  | x :: r => by
    obtain ⟨zs, h⟩ := trimL_prefix r
    by_cases hc : trimL r = [] ∧ x = 0
    · exact ⟨x :: r, by simp [trimL, hc]⟩
    · refine ⟨zs, ?_⟩
      simp only [trimL, if_neg hc, List.cons_append]
      rw [← h]
theorem trimL_len (xs : List Nat) : (trimL xs).length ≤ xs.length := by
  obtain ⟨zs, h⟩ := trimL_prefix xs
  have := congrArg List.length h
  rw [List.length_append] at this
  omega
theorem trimL_take (xs : List Nat) : xs.take (trimL xs).length = trimL xs := by
  obtain ⟨zs, h⟩ := trimL_prefix xs
  conv => lhs; rw [h]
  conv => lhs; arg 1; rw [← h]
  exact List.take_left
/-- The digits of a number. -/
def dig (n : Nat) : List Nat := if n = 0 then [] else n % 256 :: dig (n / 256)
theorem dig_zero : dig 0 = [] := by unfold dig; simp
theorem dig_pos {n : Nat} (h : n ≠ 0) : dig n = n % 256 :: dig (n / 256) := by
  rw [dig]; simp [h]
theorem num_dig (n : Nat) : num (dig n) = n := by
  induction n using Nat.strongRecOn with
  | _ n ih =>
    by_cases h : n = 0
    · subst h; rw [dig_zero]; rfl
    · rw [dig_pos h, num, ih (n / 256) (by omega)]
      omega
/-- Digits. -/
def Digs (xs : List Nat) : Prop := ∀ x ∈ xs, x < 256
theorem Digs.nil : Digs [] := fun _ h => by cases h
theorem Digs.cons {x : Nat} {xs : List Nat} (h : x < 256) (hs : Digs xs) : Digs (x :: xs) := fun y hy => by
  rcases List.mem_cons.1 hy with rfl | hy
  · exact h
  · exact hs y hy
theorem Digs.tail {x : Nat} {xs : List Nat} (h : Digs (x :: xs)) : Digs xs := fun y hy => h y (.tail _ hy)
theorem Digs.head {x : Nat} {xs : List Nat} (h : Digs (x :: xs)) : x < 256 := h x (.head _)
theorem Digs.snoc {x : Nat} {xs : List Nat} (hs : Digs xs) (h : x < 256) : Digs (xs ++ [x]) := fun y hy => by
  rcases List.mem_append.1 hy with hy | hy
  · exact hs y hy
  · obtain rfl : y = x := by simpa using hy
    exact h
theorem dig_digs (n : Nat) : Digs (dig n) := by
  induction n using Nat.strongRecOn with
  | _ n ih =>
    by_cases h : n = 0
    · subst h; rw [dig_zero]; exact Digs.nil
    · rw [dig_pos h]
      exact Digs.cons (Nat.mod_lt _ (by decide)) (ih (n / 256) (by omega))
theorem trimL_dig : ∀ xs : List Nat, Digs xs → trimL xs = dig (num xs)
  | [], _ => by rw [num, dig_zero]; rfl
  | x :: r, h => by
    have ih := trimL_dig r h.tail
    have hx := h.head
    simp only [trimL, num, ih]
    by_cases hr : num r = 0
    · rw [hr, dig_zero]
      by_cases h0 : x = 0
      · subst h0; simp [dig_zero]
      · rw [if_neg (by simp [h0]), dig_pos (by omega), show (x + 256 * 0) % 256 = x by omega, show (x + 256 * 0) / 256 = 0 by omega, dig_zero]
    · rw [if_neg (by rw [dig_pos hr]; simp), dig_pos (n := x + 256 * num r) (by omega), show (x + 256 * num r) % 256 = x by omega, show (x + 256 * num r) / 256 = num r by omega]
theorem trim_dig (n : Nat) : trimL (dig n) = dig n := by rw [trimL_dig _ (dig_digs n), num_dig]
theorem num_append (xs ys : List Nat) : num (xs ++ ys) = num xs + 256 ^ xs.length * num ys := by
  induction xs with
  | nil => simp [num]
  | cons x xs ih =>
    simp only [List.cons_append, num, ih, List.length_cons, Nat.pow_succ]
    grind
theorem num_lt : ∀ xs : List Nat, Digs xs → num xs < 256 ^ xs.length
  | [], _ => by simp [num]
  | x :: xs, h => by
    have ih := num_lt xs h.tail
    have := h.head
    simp only [num, List.length_cons, Nat.pow_succ]
    omega
theorem num_zeros (k : Nat) : num (List.replicate k 0) = 0 := by
  induction k with
  | zero => rfl
  | succ k ih => rw [List.replicate_succ, num, ih]
theorem dig_len {n k : Nat} (h : n < 256 ^ k) : (dig n).length ≤ k := by
  induction k generalizing n with
  | zero =>
    obtain rfl : n = 0 := by simpa using h
    rw [dig_zero]; exact Nat.le_refl _
  | succ k ih =>
    by_cases h0 : n = 0
    · subst h0; rw [dig_zero]; exact Nat.zero_le _
    · rw [dig_pos h0, List.length_cons]
      have := ih (n := n / 256) (by rw [Nat.pow_succ] at h; omega)
      omega
theorem dig_nil {n : Nat} : (dig n).length = 0 ↔ n = 0 := by
  constructor
  · intro h
    by_cases h0 : n = 0
    · exact h0
    · rw [dig_pos h0] at h; simp at h
  · rintro rfl; rw [dig_zero]; rfl
theorem dig_of (xs : List Nat) (h : Digs xs) (ht : trimL xs = xs) : xs = dig (num xs) := by rw [← trimL_dig xs h, ht]
theorem num_set (xs : List Nat) : ∀ (i v a : Nat), xs[i]? = some a → num (xs.set i v) + 256 ^ i * a = num xs + 256 ^ i * v := by
  induction xs with
  | nil => intro i v a h; simp at h
  | cons x xs ih =>
    intro i v a h
    cases i with
    | zero =>
      obtain rfl : x = a := by simpa using h
      simp [num]; omega
    | succ i =>
      have h1 := ih i v a (by simpa using h)
      simp only [List.set_cons_succ, num, Nat.pow_succ]
      have e1 : 256 ^ i * 256 * a = 256 * (256 ^ i * a) := by grind
      have e2 : 256 ^ i * 256 * v = 256 * (256 ^ i * v) := by grind
      rw [e1, e2]
      omega
theorem num_take_succ (xs : List Nat) (i a : Nat) (h : xs[i]? = some a) : num (xs.take (i + 1)) = num (xs.take i) + 256 ^ i * a := by
  have hlt : i < xs.length := (List.getElem?_eq_some_iff.1 h).1
  rw [List.take_add_one, h]
  show num (xs.take i ++ [a]) = _
  rw [num_append, List.length_take, Nat.min_eq_left (by omega)]
  simp [num]
/-! ### Carrying -/
theorem carry_step {out : List Nat} {i left v N : Nat} (hl : out.length = i) (h : num out + 256 ^ i * left = N) (V : Nat) (hV : V = left + v) : num (out ++ [V % 256]) + 256 ^ (i + 1) * (V / 256) = N + 256 ^ i * v := by
  rw [num_append, hl]
  simp only [num, Nat.mul_zero, Nat.add_zero, Nat.pow_succ]
  have e : 256 ^ i * (V % 256) + 256 ^ i * 256 * (V / 256) = 256 ^ i * V := by
    rw [Nat.mul_assoc, ← Nat.mul_add, Nat.mod_add_div]
  have e2 : 256 ^ i * V = 256 ^ i * left + 256 ^ i * v := by rw [hV, Nat.mul_add]
  omega
/-! ### Bytes as digits -/
def ofB (b : List (BitVec 8)) : List Nat := b.map (·.toNat)
theorem ofB_digs (b : List (BitVec 8)) : Digs (ofB b) := fun x hx => by
  obtain ⟨y, _, rfl⟩ := List.mem_map.1 hx
  exact y.isLt
theorem ofB_num (b : List (BitVec 8)) : num (ofB b) = leN b := by
  induction b with
  | nil => rfl
  | cons x b ih => simp only [ofB, List.map_cons, num, leN] at ih ⊢; rw [ih]
def toB (xs : List Nat) (size : Nat) : List (BitVec 8) := (xs.take size).map (BitVec.ofNat 8) ++ List.replicate (size - xs.length) 0#8
theorem toB_len (xs : List Nat) (size : Nat) : (toB xs size).length = size := by simp [toB]; omega
theorem leN_map (xs : List Nat) (h : Digs xs) : leN (xs.map (BitVec.ofNat 8)) = num xs := by
  induction xs with
  | nil => rfl
  | cons x xs ih =>
    have := h.head
    simp only [List.map_cons, leN, num, ih h.tail, BitVec.toNat_ofNat]
    omega
theorem num_take (xs : List Nat) (h : Digs xs) (k : Nat) : num (xs.take k) = num xs % 256 ^ k := by
  have hd : Digs (xs.take k) := fun y hy => h y (List.mem_of_mem_take hy)
  rcases Nat.le_total k xs.length with hk | hk
  · have h1 := num_append (xs.take k) (xs.drop k)
    rw [List.take_append_drop, List.length_take, Nat.min_eq_left hk] at h1
    have h2 := num_lt _ hd
    rw [List.length_take, Nat.min_eq_left hk] at h2
    rw [h1, Nat.add_mul_mod_self_left, Nat.mod_eq_of_lt h2]
  · rw [List.take_of_length_le hk, Nat.mod_eq_of_lt (Nat.lt_of_lt_of_le (num_lt _ h) (Nat.pow_le_pow_right (by decide) hk))]
theorem toB_leN (xs : List Nat) (h : Digs xs) (size : Nat) : leN (toB xs size) = num xs % 256 ^ size := by
  have hd : Digs (xs.take size) := fun y hy => h y (List.mem_of_mem_take hy)
  rw [toB, leN_append, leN_zeros, leN_map _ hd, num_take xs h]
  omega
end Plain
