/-
  The ladder over numbers and that over remainders.
-/
import Derived.Test.YtgkndcincgpmdaaPlainMont
import Derived.Test.YtgkndcincgpmdaaPlainLaw8c
namespace Plain
open Go Go.Sym
instance : NeZero FP := ⟨by decide⟩
/-! ### Numbers as remainders -/
def toF (a : Nat) : Fin FP := Fin.ofNat FP a
theorem toF_val (a : Nat) : (toF a).val = a % FP := rfl
theorem toF_of (a : Fin FP) : toF a.val = a := Fin.ext (Nat.mod_eq_of_lt a.isLt)
theorem toF_add (a b : Nat) : toF (fadd a b) = toF a + toF b := by
  apply Fin.ext
  rw [Fin.val_add, toF_val, toF_val, toF_val, fadd, Nat.mod_mod, ← Nat.add_mod]
theorem toF_mul (a b : Nat) : toF (fmul a b) = toF a * toF b := by
  apply Fin.ext
  rw [Fin.val_mul, toF_val, toF_val, toF_val, fmul, Nat.mod_mod, ← Nat.mul_mod]
theorem toF_sub (a b : Nat) (hb : b < FP) : toF (fsub a b) = toF a - toF b := by
  apply Fin.ext
  show (a + (FP - b)) % FP % FP = (FP - b % FP + a % FP) % FP
  rw [Nat.mod_mod, Nat.mod_eq_of_lt hb, Nat.add_comm a]
  conv => rhs; rw [Nat.add_mod, Nat.mod_mod, ← Nat.add_mod]
def toP (p : NP) : NF FP := ⟨toF p.x, toF p.z⟩
def NP.lt (p : NP) : Prop := p.x < FP ∧ p.z < FP
theorem dbl_lt (p : NP) : (dblN p).lt := ⟨fmul_lt _ _, fmul_lt _ _⟩
theorem add_lt (u : Nat) (p q : NP) : (addN u p q).lt := ⟨fmul_lt _ _, fmul_lt _ _⟩
def c0 : Fin FP := toF 121665
theorem toP_dbl (p : NP) (hp : p.lt) : toP (dblN p) = dblF c0 (toP p) := by
  have e : ∀ a b, toF (fsub (fmul a a) (fmul b b)) = toF a * toF a - toF b * toF b := fun a b => by rw [toF_sub _ _ (fmul_lt _ _), toF_mul, toF_mul]
  unfold dblN dblF toP
  simp only
  rw [toF_mul, toF_mul, toF_mul, toF_mul, toF_add (fmul _ _), toF_mul, toF_mul, e, toF_add, toF_sub _ _ hp.2]
  rfl
theorem toP_add (u : Nat) (p q : NP) (hp : p.lt) (hq : q.lt) : toP (addN u p q) = addF (toF u) (toP p) (toP q) := by
  have e1 : toF (fmul (fsub q.x q.z) (fadd p.x p.z)) = (toF q.x - toF q.z) * (toF p.x + toF p.z) := by rw [toF_mul, toF_sub _ _ hq.2, toF_add]
  have e2 : toF (fmul (fadd q.x q.z) (fsub p.x p.z)) = (toF q.x + toF q.z) * (toF p.x - toF p.z) := by rw [toF_mul, toF_sub _ _ hp.2, toF_add]
  unfold addN addF toP
  simp only
  rw [toF_mul, toF_mul, toF_mul, toF_add (fmul _ _), toF_sub _ _ (fmul_lt _ _), e1, e2]
theorem lad_link (key : List (BitVec 8)) (u : Nat) (hu : u < FP) (j : Nat) :
    (ladN key u j).1.lt ∧ (ladN key u j).2.lt ∧ toP (ladN key u j).1 = (ladF c0 (bitK key) (toF u) j).1 ∧ toP (ladN key u j).2 = (ladF c0 (bitK key) (toF u) j).2 := by
  induction j with
  | zero =>
    have h1 : (1 : Nat) < FP := by decide
    have h0 : (0 : Nat) < FP := by decide
    exact ⟨⟨h1, h0⟩, ⟨hu, h1⟩, rfl, rfl⟩
  | succ j ih =>
    obtain ⟨i1, i2, i3, i4⟩ := ih
    rw [ladN, ladF]
    generalize ladN key u j = s at *
    generalize ladF c0 (bitK key) (toF u) j = f at *
    cases bitK key (254 - j)
    · rw [stepN, stepF, if_neg (by decide), if_neg (by decide)]
      exact ⟨dbl_lt _, add_lt _ _ _, by rw [toP_dbl _ i1, i3], by rw [toP_add _ _ _ i1 i2, i3, i4]⟩
    · rw [stepN, stepF, if_pos rfl, if_pos rfl]
      exact ⟨add_lt _ _ _, dbl_lt _, by rw [toP_add _ _ _ i2 i1, i3, i4], by rw [toP_dbl _ i2, i4]⟩
section
variable {n : Nat} [NeZero n]
def multF (c : Fin n) (bits : Nat → Bool) (u : Fin n) : Fin n := (ladF c bits u 255).1.x * iv (ladF c bits u 255).1.z
end
theorem mult_link (key : List (BitVec 8)) (u : Nat) (hu : u < FP) : toF (multN key u) = multF c0 (bitK key) (toF u) := by
  obtain ⟨_, _, h3, _⟩ := lad_link key u hu 255
  rw [multN, multF, toF_mul, ← h3]
  have : toF ((ladN key u 255).1.z ^ FE % FP) = iv (toP (ladN key u 255).1).z := by
    apply Fin.ext
    show _ % FP % FP = ((ladN key u 255).1.z % FP) ^ (FP - 2) % FP
    rw [Nat.mod_mod, ← Nat.pow_mod]
    rfl
  rw [this]
  rfl
end Plain
