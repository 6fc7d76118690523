/-
  Secrets agree, and are no 0; keys of small order make 0.
-/
import Derived.Test.YtgkndcincgpmdaaPlainGrp
namespace Plain
open Go Go.Sym
/-! ### The number of a key -/
theorem kN_lt (bits : Nat → Bool) (j : Nat) : kN bits j < 2 ^ j := by
  induction j with
  | zero => exact Nat.zero_lt_one
  | succ j ih =>
    rw [kN, Nat.pow_succ]
    split <;> omega
theorem kN_ge (bits : Nat → Bool) (h : bits 254 = true) (j : Nat) : 2 ^ j ≤ kN bits (j + 1) := by
  induction j with
  | zero =>
    rw [kN, kN, if_pos h]
    decide
  | succ j ih =>
    rw [kN, Nat.pow_succ]
    omega
theorem kN_eight (bits : Nat → Bool) (h0 : bits 0 = false) (h1 : bits 1 = false) (h2 : bits 2 = false) : kN bits 255 = 8 * kN bits 252 := by
  rw [show (255 : Nat) = 252 + 1 + 1 + 1 from rfl, kN, kN, kN]
  rw [show 254 - 252 = 2 from rfl, show 254 - (252 + 1) = 1 from rfl, show 254 - (252 + 1 + 1) = 0 from rfl, h0, h1, h2]
  simp only [Bool.false_eq_true, if_false]
  omega
theorem clamp_low (k : List (BitVec 8)) (hk : k.length = 32) : ∀ i, i < 3 → bitK (clampL k) i = false := by
  have e : (clampL k).getD 0 0#8 = k.getD 0 0#8 &&& ~~~7#8 := by
    unfold clampL
    rw [set_get_ne _ _ _ _ (by decide), set_get _ _ _ (by omega)]
  have h : ∀ b : BitVec 8, ∀ i, i < 3 → decide ((b &&& ~~~7#8) >>> i &&& 1#8 = 1#8) = false := by decide +kernel
  intro i hi
  unfold bitK
  rw [show i / 8 = 0 by omega, show i % 8 = i by omega, e]
  exact h _ i hi
theorem clamp_high (k : List (BitVec 8)) (hk : k.length = 32) : bitK (clampL k) 254 = true := by
  have e : (clampL k).getD 31 0#8 = (k.getD 31 0#8 &&& ~~~128#8) ||| 64#8 := by
    unfold clampL
    rw [set_get _ _ _ (by rw [List.length_set]; omega), set_get_ne _ _ _ _ (by decide)]
  have h : ∀ b : BitVec 8, decide (((b &&& ~~~128#8) ||| 64#8) >>> 6 &&& 1#8 = 1#8) = true := by decide +kernel
  unfold bitK
  rw [show 254 / 8 = 31 from rfl, show 254 % 8 = 6 from rfl, e]
  exact h _
/-- The number of a clamped key. -/
def kK (k : List (BitVec 8)) : Nat := kN (bitK (clampL k)) 255
theorem kK_eight (k : List (BitVec 8)) (hk : k.length = 32) : ∃ m, kK k = 8 * m ∧ 0 < m ∧ m < FL := by
  refine ⟨kN (bitK (clampL k)) 252, kN_eight _ (clamp_low k hk 0 (by decide)) (clamp_low k hk 1 (by decide)) (clamp_low k hk 2 (by decide)), ?_, ?_⟩
  · have h := kN_ge _ (clamp_high k hk) 251
    exact Nat.lt_of_lt_of_le (Nat.two_pow_pos 251) h
  · exact Nat.lt_of_lt_of_le (kN_lt _ 252) (by decide +kernel)
theorem kK_even (k : List (BitVec 8)) (hk : k.length = 32) : ∃ m, kN (bitK (clampL k)) 255 = 2 * m := by
  obtain ⟨m, hm, _⟩ := kK_eight k hk
  exact ⟨4 * m, by rw [show kN (bitK (clampL k)) 255 = kK k from rfl, hm]; omega⟩
theorem kK_part (k : List (BitVec 8)) (hk : k.length = 32) : ¬ FL ∣ kK k := fun h => by
  obtain ⟨m, hm, h0, h1⟩ := kK_eight k hk
  rw [hm] at h
  rcases prime_FL.euclid h with h | h
  · exact absurd (Nat.le_of_dvd (by decide) h) (by decide +kernel)
  · have := Nat.le_of_dvd h0 h
    omega
/-! ### A multiple, by remainders -/
def mF (k : List (BitVec 8)) (u : Fin FP) : Fin FP := multF c0 (bitK (clampL k)) u
theorem multL_F (k u : List (BitVec 8)) (hu : u.length = 32) : multL k u = leB (mF k (toF (uN u))).val 32 := by
  rw [multL_law k u hu, mF, ← mult_link _ _ (uN_lt u), toF_val, Nat.mod_eq_of_lt (multN_lt _ _)]
theorem toF_multL (k u : List (BitVec 8)) (hu : u.length = 32) : toF (uN (multL k u)) = mF k (toF (uN u)) := by
  rw [multL_F k u hu, uN_leB _ (mF k (toF (uN u))).isLt, toF_of]
theorem multL_order (a b u : List (BitVec 8)) (ha : a.length = 32) (hb : b.length = 32) (hu : u.length = 32) : multL a (multL b u) = multL b (multL a u) := by
  rw [multL_F a _ (multL_len b u), multL_F b _ (multL_len a u), toF_multL b u hu, toF_multL a u hu, mF, mF, mF, mF, mult_comm _ _ (kK_even a ha) (kK_even b hb)]
/-! ### The base point -/
theorem gen1 {n : Nat} [NeZero n] (y : Fin n) (hy : y * (9 + 1) = 9 - 1) (h : 1 + y = 0) : (18 : Fin n) = 0 := by grobner
theorem gen2 {n : Nat} [NeZero n] (y : Fin n) (hy : y * (9 + 1) = 9 - 1) : 9 * (1 - y) = 1 + y := by grobner
def x9 : Fin FP := Fin.ofNat FP 9771384041963202563870679428059935816164187996444183106833894008023910952347
theorem base_point : ∃ P : EP FP, onE d1 P ∧ uE P = 9 ∧ P.y * (9 + 1) = 9 - 1 :=
  good1.cover (A := cA) (s := x9) rfl (v_ne 9) hA1 hA3 (by decide +kernel) (by decide +kernel)
def lB : List (BitVec 8) := leB FL 32
theorem lB_num : kN (bitK lB) 255 = FL := by decide +kernel
theorem lB_zero : (ladN lB 9 255).1.z = 0 := by decide +kernel
theorem base_order {P : EP FP} (hP : onE d1 P) (hy : P.y * (9 + 1) = 9 - 1) : mulE d1 FL P = zeroE := by
  have g := good1
  have h18 : (18 : Fin FP) ≠ 0 := by decide +kernel
  have h1 : 1 + P.y ≠ 0 := fun h => h18 (gen1 _ hy h)
  have h2 : (9 : Fin FP) * (1 - P.y) = 1 + P.y := gen2 _ hy
  have hl := (g.ladder c0_eq hP h2 h1 (bitK lB) 255).1
  rw [lB_num] at hl
  obtain ⟨l, hl0, _, hz⟩ := hl
  obtain ⟨_, _, h3, _⟩ := lad_link lB 9 (by decide) 255
  rw [show (9 : Fin FP) = toF 9 from rfl, ← h3] at hz
  have hz2 : toF (ladN lB 9 255).1.z = l * (1 - (mulE d1 FL P).y) := hz
  rw [lB_zero] at hz2
  have hy2 : 1 - (mulE d1 FL P).y = 0 := by
    rcases mul_zero' prime_FP hz2.symm with h | h
    · exact absurd h hl0
    · exact h
  have hon := g.on_mul hP FL
  generalize mulE d1 FL P = Q at *
  have hy3 : Q.y = 1 := by clear hy h2 hz hz2; grobner
  have hx := g.x0 hon (by rw [hy3]; clear hy h2 hz hz2 hy2 hy3; grobner)
  exact EP.ext' hx hy3
theorem base_ne {P : EP FP} (hP : onE d1 P) (hy : P.y * (9 + 1) = 9 - 1) {k : Nat} (hk : ¬ FL ∣ k) : uE (mulE d1 k P) ≠ 0 := fun h => by
  have g := good1
  have hon := g.on_mul hP k
  have hyy : (mulE d1 k P).y * (mulE d1 k P).y = 1 := by
    rcases mul_zero' prime_FP h with h | h
    · generalize (mulE d1 k P).y = y at *
      clear hy
      grobner
    · by_cases h0 : 1 - (mulE d1 k P).y = 0
      · generalize (mulE d1 k P).y = y at *
        clear hy h
        grobner
      · have h1 := mul_iv prime_FP h0
        rw [h] at h1
        exact absurd (by rw [← h1]; clear hy h h1; grobner) (one_ne prime_FP)
  have h2 := g.double0 hon hyy
  rw [← g.mul_mul hP] at h2
  have hc : ¬ FL ∣ 2 * k := fun hd => by
    rcases prime_FL.euclid hd with h | h
    · exact absurd (Nat.le_of_dvd (by decide) h) (by decide +kernel)
    · exact hk h
  have h0 := g.order hP (base_order hP hy) h2 (prime_FL.coprime hc)
  rw [h0] at hy
  have : (1 : Fin FP) * (9 + 1) = 9 - 1 := hy
  exact absurd this (by decide +kernel)
theorem uN_nine : toF (uN nineK) = 9 := by decide +kernel
theorem leB_zero {v : Nat} (hv : v < FP) (h : leB v 32 = zeroK) : v = 0 := by
  have h1 := congrArg leN h
  rw [leB_num 32 v (by rw [pow32]; simp only [FP] at hv; omega)] at h1
  rw [h1]
  decide +kernel
/-- Secrets are no 0. -/
theorem agree_ne (a b : List (BitVec 8)) (ha : a.length = 32) (hb : b.length = 32) : multL a (multL b nineK) ≠ zeroK := fun h => by
  obtain ⟨P, hP, hu, hy⟩ := base_point
  rw [multL_F a _ (multL_len b _), toF_multL b _ rfl, uN_nine, ← hu] at h
  have h2 := leB_zero (Fin.isLt _) h
  rw [mF, mF, good1.mult_u c0_eq hP _ (kK_even b hb), good1.mult_u c0_eq (good1.on_mul hP _) _ (kK_even a ha), ← good1.mul_mul hP] at h2
  refine base_ne hP hy (fun hd => ?_) (fin_eq_zero.2 h2)
  rcases prime_FL.euclid hd with h | h
  · exact kK_part a ha h
  · exact kK_part b hb h
theorem three_ne (a b c : List (BitVec 8)) (ha : a.length = 32) (hb : b.length = 32) (hc : c.length = 32) : multL a (multL b (multL c nineK)) ≠ zeroK := fun h => by
  obtain ⟨P, hP, hu, hy⟩ := base_point
  rw [multL_F a _ (multL_len b _), toF_multL b _ (multL_len c _), toF_multL c _ rfl, uN_nine, ← hu] at h
  have h2 := leB_zero (Fin.isLt _) h
  rw [mF, mF, mF, good1.mult_u c0_eq hP _ (kK_even c hc), good1.mult_u c0_eq (good1.on_mul hP _) _ (kK_even b hb), ← good1.mul_mul hP, good1.mult_u c0_eq (good1.on_mul hP _) _ (kK_even a ha), ← good1.mul_mul hP] at h2
  refine base_ne hP hy (fun hd => ?_) (fin_eq_zero.2 h2)
  rcases prime_FL.euclid hd with h | h
  · exact kK_part a ha h
  · rcases prime_FL.euclid h with h | h
    · exact kK_part b hb h
    · exact kK_part c hc h
/-! ### Keys of small order -/
section
variable {n : Nat} [NeZero n] {d : Fin n}
def oneE : EP n := ⟨1, 0⟩
theorem on_one : onE d (oneE : EP n) := by
  show (1 : Fin n) * 1 + 0 * 0 = 1 + d * (1 * 1 * (0 * 0))
  grobner
theorem Good.u_one (g : Good d) : uE (oneE : EP n) = 1 := by
  show (1 + 0) * iv (1 - 0 : Fin n) = 1
  have h : iv (1 - 0 : Fin n) = 1 := iv_unique g.prime (by grobner)
  rw [h]
  grobner
theorem Good.four (g : Good d) (m : Nat) : mulE d (8 * m) (oneE : EP n) = zeroE := by
  have h1 := g.add_y (P := oneE) (Q := oneE) on_one on_one
  have ht : tE d (oneE : EP n) oneE = 0 := by
    show d * (1 * 1 * (0 * 0)) = (0 : Fin n)
    clear h1
    grobner
  rw [ht] at h1
  have h2 : (addE d oneE oneE).y = (-1 : Fin n) := by
    have e : (addE d oneE oneE).y * (1 - 0) = (0 * 0 - 1 * 1 : Fin n) := h1
    generalize (addE d (oneE : EP n) oneE).y = y at *
    clear h1
    grobner
  have e2 : mulE d 2 (oneE : EP n) = addE d oneE oneE := by
    show addE d (addE d zeroE oneE) oneE = _
    rw [zero_add' g.prime]
  have h4 : mulE d 2 (mulE d 2 (oneE : EP n)) = zeroE := by
    refine g.double0 (g.on_mul on_one 2) ?_
    rw [e2, h2]
    clear h1 h2
    grobner
  rw [show 8 * m = (2 * m) * (2 * 2) by omega, g.mul_mul on_one, g.mul_mul on_one, h4, g.mul_zero]
end
theorem mF_zero (k : List (BitVec 8)) : mF k 0 = 0 := good1.mult0 _ _
theorem mF_one (k : List (BitVec 8)) (hk : k.length = 32) : mF k 1 = 0 := by
  obtain ⟨m, hm, _⟩ := kK_eight k hk
  have h := good1.mult_u c0_eq (P := oneE) on_one _ (kK_even k hk)
  rw [good1.u_one, show kN (bitK (clampL k)) 255 = 8 * m from hm, good1.four, uE_zero good1] at h
  exact h
theorem mF_minus (k : List (BitVec 8)) (hk : k.length = 32) : mF k (-1) = 0 := by
  obtain ⟨m, hm, _⟩ := kK_eight k hk
  have h := good2.mult_u c1_eq (P := oneE) on_one _ (kK_even k hk)
  rw [good2.u_one, show kN (bitK (clampL k)) 255 = 8 * m from hm, good2.four, uE_zero good2] at h
  have h2 := good2.mult_opp c0 (-1) (bitK (clampL k))
  rw [show -(-1 : Fin FP) = 1 by clear h2 h; grobner, h] at h2
  unfold mF
  generalize multF c0 (bitK (clampL k)) (-1) = x at *
  clear h
  grobner
theorem small_any (k u : List (BitVec 8)) (hk : k.length = 32) (hu : u.length = 32) (h : toF (uN u) = 0 ∨ toF (uN u) = 1 ∨ toF (uN u) = -1) : multL k u = zeroK := by
  rw [multL_F k u hu]
  have hz : leB 0 32 = zeroK := by decide +kernel
  rcases h with h | h | h
  · rw [h, mF_zero]; exact hz
  · rw [h, mF_one k hk]; exact hz
  · rw [h, mF_minus k hk]; exact hz
end Plain
