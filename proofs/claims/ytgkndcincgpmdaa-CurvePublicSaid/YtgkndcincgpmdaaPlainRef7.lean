/-
  Plain laws of hatchwayref07, hatchwayref08: rows of digits modulo P.
-/
import Derived.Test.YtgkndcincgpmdaaPlainInv
import Derived.Test.YtgkndcincgpmdaaPlainRef3c
namespace Plain
open Go Go.Sym
theorem dig32 {N : Nat} (h : N < FP) : (dig N).length ≤ 32 := dig_len (Nat.lt_trans h (by decide +kernel))
theorem dig_sum {N M : Nat} (hN : N < FP) (hM : M < FP) : (dig (N + M)).length ≤ 64 := dig_len (Nat.lt_trans (Nat.add_lt_add hN hM) (by decide +kernel))
theorem dig_prod {N M : Nat} (hN : N < FP) (hM : M < FP) : (dig (N * M)).length ≤ 64 := dig_len (Nat.lt_trans (Nat.mul_lt_mul'' hN hM) (by decide +kernel))
theorem dig_one : dig 1 = [1] := (dig_of [1] (show ∀ x ∈ [1], x < 256 by decide) (by decide)).symm
theorem dig_a24 : dig 121665 = [65, 219, 1] := (dig_of [65, 219, 1] (show ∀ x ∈ [65, 219, 1], x < 256 by decide) (by decide)).symm
theorem fadd_lt (a b : Nat) : fadd a b < FP := Nat.mod_lt _ (by decide)
theorem fsub_lt (a b : Nat) : fsub a b < FP := Nat.mod_lt _ (by decide)
/-! ### P, and P less a number -/
def pTo (i : Nat) : List Nat := 237 :: List.replicate (i - 1) 255
theorem pTo_len (i : Nat) (h : 1 ≤ i) : (pTo i).length = i := by rw [pTo, List.length_cons, List.length_replicate]; omega
theorem pTo_snoc (i : Nat) (h : 1 ≤ i) : pTo i ++ [255] = pTo (i + 1) := by
  rw [pTo, pTo, List.cons_append, ← List.replicate_succ']
  congr 2
  omega
def pD : List Nat := pTo 31 ++ [127]
def eD : List Nat := pD.set 0 235
theorem pD_len : pD.length = 32 := rfl
theorem pD_num : num pD = FP := by decide +kernel
theorem pD_digs : Digs pD := show ∀ x ∈ pD, x < 256 by decide
theorem pD_ge : ∀ x ∈ pD, 127 ≤ x := by decide
theorem neg_step {out xs ps : List Nat} {i b b' pv av T : Nat} (ho : out.length = i) (h : num out + num (xs.take i) = num (ps.take i) + 256 ^ i * b) (hp : ps[i]? = some pv) (ha : xs[i]? = some av ∨ (xs.length ≤ i ∧ av = 0)) (hT : T + av + b = pv + 256 * b') :
    num (out ++ [T]) + num (xs.take (i + 1)) = num (ps.take (i + 1)) + 256 ^ (i + 1) * b' := by
  have e1 : num (xs.take (i + 1)) = num (xs.take i) + 256 ^ i * av := by
    rcases ha with ha | ⟨ha, h0⟩
    · exact num_take_succ xs i av ha
    · rw [List.take_of_length_le (by omega), List.take_of_length_le ha, h0, Nat.mul_zero, Nat.add_zero]
  rw [num_append, ho, e1, num_take_succ ps i pv hp, Nat.pow_succ, show num [T] = T from by simp [num]]
  have e2 : 256 ^ i * T + 256 ^ i * av + 256 ^ i * b = 256 ^ i * pv + 256 ^ i * 256 * b' := by
    rw [← Nat.mul_add, ← Nat.mul_add, hT, Nat.mul_add, Nat.mul_assoc]
  omega
theorem neg_done {out : List Nat} {a b : Nat} (ho : out.length = 32) (hd : Digs out) (ha : a < FP) (h : num out + num ((dig a).take 32) = num (pD.take 32) + 256 ^ 32 * b) : num out = FP - a := by
  rw [List.take_of_length_le (dig32 ha), num_dig, List.take_of_length_le (Nat.le_of_eq pD_len), pD_num] at h
  have h1 := num_lt out hd
  rw [ho] at h1
  have hb : b = 0 := by
    rcases Nat.eq_zero_or_pos b with h0 | h0
    · exact h0
    · have := Nat.mul_le_mul_left (256 ^ 32) h0
      omega
  subst hb
  omega
theorem fsub_neg (N M : Nat) : fadd N ((FP - M) % FP) = fsub N M := by
  unfold fadd fsub
  rw [Nat.add_mod, Nat.mod_mod, ← Nat.add_mod]
/-! ### One over a number, bit by bit -/
def bitE (i : Nat) : Bool := decide (eD.getD (i / 8) 0 / 2 ^ (i % 8) % 2 = 1)
def xR : Nat → Nat
  | 0 => 0
  | k + 1 => 2 * xR k + (if bitE (254 - k) then 1 else 0)
def invR (a : Nat) : Nat → Nat
  | 0 => 1
  | k + 1 => if bitE (254 - k) then fmul (fmul (invR a k) (invR a k)) a else fmul (invR a k) (invR a k)
theorem invR_lt (a k : Nat) : invR a k < FP := by
  cases k with
  | zero => show 1 < FP; decide
  | succ k =>
    rw [invR]
    split
    · exact fmul_lt _ _
    · exact fmul_lt _ _
theorem invR_pow (a : Nat) (k : Nat) : invR a k = a ^ xR k % FP := by
  induction k with
  | zero => rw [invR, xR, Nat.pow_zero]; decide +kernel
  | succ k ih =>
    have h1 : fmul (invR a k) (invR a k) = a ^ (2 * xR k) % FP := fmul_pow ih ih (by omega)
    rw [invR, xR]
    split
    · have e1 : fmul (fmul (invR a k) (invR a k)) a = fmul (fmul (invR a k) (invR a k)) (a % FP) := by unfold fmul; rw [Nat.mul_mod_mod]
      rw [e1]
      exact fmul_pow h1 (by rw [Nat.pow_one]) rfl
    · exact h1
theorem xR_all : xR 255 = FE := by decide +kernel
theorem invR_all (a : Nat) : invR a 255 = a ^ FE % FP := by rw [invR_pow, xR_all]
/-! ### Bytes; the bits of a clamped key -/
theorem toB_leB {N : Nat} (h : N < FP) : toB (dig N) 32 = leB N 32 :=
  leN_inj _ _ (by rw [toB_len, leB_len]) (by
    have h2 : N < 256 ^ 32 := Nat.lt_trans h (by decide +kernel)
    rw [toB_leN _ (dig_digs N), num_dig, leB_num 32 N h2, Nat.mod_eq_of_lt h2])
theorem get_set (l : List (BitVec 8)) (i j : Nat) (y : BitVec 8) (h : i < l.length) : (l.set i y).getD j 0#8 = if i = j then y else l.getD j 0#8 := by
  rw [List.getD_eq_getElem?_getD, List.getElem?_set, List.getD_eq_getElem?_getD]
  by_cases hij : i = j
  · rw [if_pos hij, if_pos h, if_pos hij]; rfl
  · rw [if_neg hij, if_neg hij]
theorem clamp_get (k : List (BitVec 8)) (hk : k.length = 32) (j : Nat) : (clampL k).getD j 0#8 = if j = 0 then k.getD 0 0#8 &&& ~~~7#8 else if j = 31 then (k.getD 31 0#8 &&& ~~~128#8) ||| 64#8 else k.getD j 0#8 := by
  unfold clampL
  rw [get_set _ _ _ _ (by rw [List.length_set]; omega), get_set _ _ _ _ (by omega), get_set _ _ _ _ (by omega)]
  by_cases h31 : j = 31
  · subst h31; rfl
  · by_cases h0 : j = 0
    · subst h0; rfl
    · rw [if_neg (fun h => h31 h.symm), if_neg (fun h => h0 h.symm), if_neg h0, if_neg h31]
theorem low_7 : ∀ (b : BitVec 8) (i : Fin 8), decide (((b &&& ~~~7#8) >>> i.val) &&& 1#8 = 1#8) = if i.val < 3 then false else decide ((b >>> i.val) &&& 1#8 = 1#8) := by decide +kernel
theorem high_7 : ∀ (b : BitVec 8) (i : Fin 7), decide ((((b &&& ~~~128#8) ||| 64#8) >>> i.val) &&& 1#8 = 1#8) = if i.val = 6 then true else decide ((b >>> i.val) &&& 1#8 = 1#8) := by decide +kernel
theorem bit_clamp (k : List (BitVec 8)) (hk : k.length = 32) (i : Nat) (hi : i ≤ 254) : bitK (clampL k) i = if i < 3 then false else if i = 254 then true else bitK k i := by
  unfold bitK
  rw [clamp_get k hk]
  by_cases h0 : i / 8 = 0
  · rw [if_pos h0, h0]
    have h := low_7 (k.getD 0 0#8) ⟨i % 8, by omega⟩
    simp only at h
    rw [h]
    by_cases h3 : i < 3
    · rw [if_pos h3, if_pos (show i % 8 < 3 by omega)]
    · rw [if_neg h3, if_neg (show ¬ i % 8 < 3 by omega), if_neg (show ¬ i = 254 by omega)]
  · rw [if_neg h0, if_neg (show ¬ i < 3 by omega)]
    by_cases h31 : i / 8 = 31
    · rw [if_pos h31, h31]
      have h := high_7 (k.getD 31 0#8) ⟨i % 8, by omega⟩
      simp only at h
      rw [h]
      by_cases h6 : i % 8 = 6
      · rw [if_pos h6, if_pos (show i = 254 by omega)]
      · rw [if_neg h6, if_neg (show ¬ i = 254 by omega)]
    · rw [if_neg h31, if_neg (show ¬ i = 254 by omega)]
/-! ### A step -/
theorem fmul_comm (a b : Nat) : fmul a b = fmul b a := by unfold fmul; rw [Nat.mul_comm]
theorem dblN_ref (p : NP) : dblN p = ⟨fmul (fmul (fadd p.x p.z) (fadd p.x p.z)) (fmul (fsub p.x p.z) (fsub p.x p.z)),
    fmul (fsub (fmul (fadd p.x p.z) (fadd p.x p.z)) (fmul (fsub p.x p.z) (fsub p.x p.z))) (fadd (fmul (fadd p.x p.z) (fadd p.x p.z)) (fmul 121665 (fsub (fmul (fadd p.x p.z) (fadd p.x p.z)) (fmul (fsub p.x p.z) (fsub p.x p.z)))))⟩ := by
  rw [fmul_comm 121665]; rfl
theorem addN_ref (u : Nat) (p q : NP) : addN u p q = ⟨fmul (fadd (fmul (fsub q.x q.z) (fadd p.x p.z)) (fmul (fadd q.x q.z) (fsub p.x p.z))) (fadd (fmul (fsub q.x q.z) (fadd p.x p.z)) (fmul (fadd q.x q.z) (fsub p.x p.z))),
    fmul u (fmul (fsub (fmul (fsub q.x q.z) (fadd p.x p.z)) (fmul (fadd q.x q.z) (fsub p.x p.z))) (fsub (fmul (fsub q.x q.z) (fadd p.x p.z)) (fmul (fadd q.x q.z) (fsub p.x p.z))))⟩ := by
  rw [fmul_comm u]; rfl
theorem stepN_lt4 (u : Nat) (b : Bool) (s : NP × NP) : (stepN u b s).1.x < FP ∧ (stepN u b s).1.z < FP ∧ (stepN u b s).2.x < FP ∧ (stepN u b s).2.z < FP := by
  cases b
  · exact ⟨fmul_lt _ _, fmul_lt _ _, fmul_lt _ _, fmul_lt _ _⟩
  · exact ⟨fmul_lt _ _, fmul_lt _ _, fmul_lt _ _, fmul_lt _ _⟩
theorem ladN_lt4 (key : List (BitVec 8)) (u : Nat) (hu : u < FP) (j : Nat) : (ladN key u j).1.x < FP ∧ (ladN key u j).1.z < FP ∧ (ladN key u j).2.x < FP ∧ (ladN key u j).2.z < FP := by
  cases j with
  | zero =>
    have h1 : (1 : Nat) < FP := by decide
    have h0 : (0 : Nat) < FP := by decide
    exact ⟨h1, h0, hu, h1⟩
  | succ j => rw [ladN]; exact stepN_lt4 _ _ _
theorem uN_below (u : List (BitVec 8)) : uN u < FP := Nat.mod_lt _ (by decide)
theorem mult_ref (k u : List (BitVec 8)) (hu : u.length = 32) : leB (fmul (ladN (clampL k) (uN u) 255).1.x (invR (ladN (clampL k) (uN u) 255).1.z 255)) 32 = multL k u := by
  rw [multL_law k u hu, multN, invR_all]
end Plain
