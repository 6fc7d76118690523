/-
  One over a number, by squares and products; cases that are shown.
-/
import Derived.Test.YtgkndcincgpmdaaPlainLadder
namespace Plain
open Go Go.Sym
def sqN (x : Nat) : Nat → Nat
  | 0 => x
  | k + 1 => fmul (sqN x k) (sqN x k)
theorem fmul_pow {x y v a b c : Nat} (hx : x = v ^ a % FP) (hy : y = v ^ b % FP) (h : a + b = c) : fmul x y = v ^ c % FP := by
  rw [fmul, hx, hy, ← Nat.mul_mod, ← Nat.pow_add, h]
theorem sqN_pow {x v e : Nat} (hx : x = v ^ e % FP) (k : Nat) {c : Nat} (h : e * 2 ^ k = c) : sqN x k = v ^ c % FP := by
  subst h
  induction k with
  | zero => rw [Nat.pow_zero, Nat.mul_one]; exact hx
  | succ k ih => exact fmul_pow ih ih (by rw [Nat.pow_succ, ← Nat.mul_assoc, Nat.mul_two])
def invN (z : Nat) : Nat :=
  let x2 := sqN z 1
  let x9 := fmul (sqN x2 2) z
  let x11 := fmul x9 x2
  let ones := fmul (sqN x11 1) x9
  let ten := fmul (sqN ones 5) ones
  let ten1 := fmul (sqN ten 10) ten
  let ten2 := fmul (sqN ten1 20) ten1
  let fifty := fmul (sqN ten2 10) ten
  let all := fmul (sqN fifty 50) fifty
  let all2 := fmul (sqN all 100) all
  let all3 := fmul (sqN all2 50) fifty
  fmul (sqN all3 5) x11
theorem invN_eq (z : Nat) (hz : z < FP) : invN z = z ^ FE % FP := by
  have h0 : z = z ^ 1 % FP := by rw [Nat.pow_one, Nat.mod_eq_of_lt hz]
  have h1 : sqN z 1 = z ^ 2 % FP := sqN_pow h0 1 (by decide)
  have h2 := fmul_pow (sqN_pow h1 2 (show 2 * 2 ^ 2 = 8 by decide)) h0 (show 8 + 1 = 9 by decide)
  have h3 := fmul_pow h2 h1 (show 9 + 2 = 11 by decide)
  have h4 := fmul_pow (sqN_pow h3 1 (show 11 * 2 ^ 1 = 22 by decide)) h2 (show 22 + 9 = 31 by decide)
  have h5 := fmul_pow (sqN_pow h4 5 (show 31 * 2 ^ 5 = 992 by decide)) h4 (show 992 + 31 = 1023 by decide)
  have h6 := fmul_pow (sqN_pow h5 10 (show 1023 * 2 ^ 10 = 1047552 by decide)) h5 (show _ = 1048575 by decide)
  have h7 := fmul_pow (sqN_pow h6 20 (show 1048575 * 2 ^ 20 = 1099510579200 by decide)) h6 (show _ = 1099511627775 by decide)
  have h8 := fmul_pow (sqN_pow h7 10 (show 1099511627775 * 2 ^ 10 = 1125899906841600 by decide)) h5 (show _ = 1125899906842623 by decide)
  have h9 := fmul_pow (sqN_pow h8 50 (show 1125899906842623 * 2 ^ 50 = 1267650600228228275596796362752 by decide)) h8 (show _ = 1267650600228229401496703205375 by decide)
  have h10 := fmul_pow (sqN_pow h9 100 (show 1267650600228229401496703205375 * 2 ^ 100 = 1606938044258990275541962092339894951921974764381296132096000 by decide)) h9 (show _ = 1606938044258990275541962092341162602522202993782792835301375 by decide)
  have h11 := fmul_pow (sqN_pow h10 50 (show 1606938044258990275541962092341162602522202993782792835301375 * 2 ^ 50 = 1809251394333065553493296640760748560207343510400633813116523624223735808000 by decide)) h8 (show _ = 1809251394333065553493296640760748560207343510400633813116524750123642650623 by decide)
  exact fmul_pow (sqN_pow h11 5 (show 1809251394333065553493296640760748560207343510400633813116524750123642650623 * 2 ^ 5 = 57896044618658097711785492504343953926634992332820282019728792003956564819936 by decide)) h3 (show _ = FE by decide)
theorem fmul_lt (a b : Nat) : fmul a b < FP := Nat.mod_lt _ (by decide)
theorem stepN_lt (u : Nat) (b : Bool) (s : NP × NP) : (stepN u b s).1.z < FP := by
  cases b
  · exact fmul_lt _ _
  · exact fmul_lt _ _
theorem multN_inv (key : List (BitVec 8)) (u : Nat) : multN key u = fmul (ladN key u 255).1.x (invN (ladN key u 255).1.z) := by
  rw [multN, invN_eq]
  rw [ladN]
  exact stepN_lt _ _ _
end Plain
