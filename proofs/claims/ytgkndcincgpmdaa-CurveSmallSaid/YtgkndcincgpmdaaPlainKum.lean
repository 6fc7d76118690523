/-
  Multiples of the u of a point; the other curve.
-/
import Derived.Test.YtgkndcincgpmdaaPlainLink
namespace Plain
open Go Go.Sym
section
variable {n : Nat} [NeZero n] {d : Fin n}
/-- The u of a point. -/
def uE (P : EP n) : Fin n := (1 + P.y) * iv (1 - P.y)
theorem Good.lt2 (g : Good d) : 2 < n := by
  have h1 := g.prime.1
  rcases Nat.lt_or_ge 2 n with h | h
  · exact h
  · exfalso
    have e : n = 2 := by omega
    apply g.two
    apply Fin.ext
    show 2 % n = 0 % n
    rw [e]
theorem Good.iv0 (g : Good d) : iv (0 : Fin n) = 0 := iv_zero g.lt2
theorem uE_zero (g : Good d) : uE (zeroE : EP n) = 0 := by
  show (1 + 1) * iv (1 - 1 : Fin n) = 0
  rw [show (1 - 1 : Fin n) = 0 by grobner, g.iv0]
  grobner
theorem Good.decode (g : Good d) {P : EP n} {p : NF n} (h : Rep P p) : p.x * iv p.z = uE P := by
  obtain ⟨l, hl, hx, hz⟩ := h
  unfold uE
  by_cases h0 : 1 - P.y = 0
  · rw [hz, h0, show l * 0 = (0 : Fin n) by clear hx hz h0; grobner, g.iv0, show p.x * 0 = (0 : Fin n) by clear hx hz h0; grobner]
    clear hx hz h0
    grobner
  · have h1 := mul_iv g.prime h0
    have h2 := mul_iv g.prime (mul_ne g.prime hl h0)
    rw [hx, hz]
    generalize iv (1 - P.y) = e at *
    generalize iv (l * (1 - P.y)) = f at *
    clear hx hz
    refine cancel_r g.prime (mul_ne g.prime hl h0) ?_
    grobner
theorem Good.x0 (g : Good d) {P : EP n} (hP : onE d P) (hy : P.y * P.y = 1) : P.x = 0 := by
  have h : P.x * P.x + P.y * P.y = 1 + d * (P.x * P.x * (P.y * P.y)) := hP
  have h1 : P.x * P.x = d * (P.x * P.x) := by grobner
  by_cases h0 : P.x = 0
  · exact h0
  · exact absurd h1 (g.nsq h0)
theorem Good.double0 (g : Good d) {P : EP n} (hP : onE d P) (hy : P.y * P.y = 1) : mulE d 2 P = zeroE := by
  have hx := g.x0 hP hy
  have h1 := g.add_y hP hP
  have h2 := g.add_x hP hP
  have ht : tE d P P = 0 := by
    show d * (P.x * P.x * (P.y * P.y)) = 0
    rw [hx]; clear h1 h2; grobner
  rw [ht] at h1 h2
  have e : mulE d 2 P = addE d P P := by
    show addE d (addE d zeroE P) P = _
    rw [zero_add' g.prime]
  rw [e]
  apply EP.ext'
  · show (addE d P P).x = 0
    rw [hx] at h2; grobner
  · show (addE d P P).y = 1
    rw [hx] at h1; grobner
theorem mult0_lad (c : Fin n) (bits : Nat → Bool) (j : Nat) : (ladF c bits 0 j).1.x * (ladF c bits 0 j).1.z = 0 ∧ (ladF c bits 0 j).2.x * (ladF c bits 0 j).2.z = 0 := by
  have dz : ∀ p : NF n, p.x * p.z = 0 → (dblF c p).x * (dblF c p).z = 0 := by
    intro p h
    unfold dblF
    simp only
    rw [show (p.x + p.z) * (p.x + p.z) - (p.x - p.z) * (p.x - p.z) = 4 * (p.x * p.z) by clear h; grobner, h]
    clear h
    grobner
  have az : ∀ p q : NF n, (addF 0 p q).x * (addF 0 p q).z = 0 := by
    intro p q
    unfold addF
    simp only
    grobner
  induction j with
  | zero =>
    constructor
    · show (1 : Fin n) * 0 = 0
      grobner
    · show (0 : Fin n) * 1 = 0
      grobner
  | succ j ih =>
    rw [ladF]
    generalize ladF c bits 0 j = s at *
    cases bits (254 - j)
    · rw [stepF, if_neg (by decide)]
      exact ⟨dz _ ih.1, az _ _⟩
    · rw [stepF, if_pos rfl]
      exact ⟨az _ _, dz _ ih.2⟩
theorem Good.mult0 (g : Good d) (c : Fin n) (bits : Nat → Bool) : multF c bits 0 = 0 := by
  have h := (mult0_lad c bits 255).1
  unfold multF
  rcases mul_zero' g.prime h with h | h
  · rw [h]; grobner
  · rw [h, g.iv0]; grobner
/-- A multiple of the u of a point, by an even number. -/
theorem Good.mult_u (g : Good d) {c : Fin n} (hc : c = d * (c + 1)) {P : EP n} (hP : onE d P) (bits : Nat → Bool) (he : ∃ m, kN bits 255 = 2 * m) : multF c bits (uE P) = uE (mulE d (kN bits 255) P) := by
  by_cases hy : P.y * P.y = 1
  · have h0 : uE P = 0 := by
      have : (1 + P.y) * (1 - P.y) = 0 := by grobner
      unfold uE
      rcases mul_zero' g.prime this with h | h
      · rw [h]; clear hy this h; grobner
      · rw [h, g.iv0]; clear hy this h; grobner
    obtain ⟨m, hm⟩ := he
    rw [h0, g.mult0, hm, Nat.mul_comm, g.mul_mul hP, g.double0 hP hy, g.mul_zero, uE_zero g]
  · have h1 : 1 - P.y ≠ 0 := fun h => hy (by grobner)
    have h2 : 1 + P.y ≠ 0 := fun h => hy (by grobner)
    have hu : uE P * (1 - P.y) = 1 + P.y := by
      have := mul_iv g.prime h1
      unfold uE
      generalize iv (1 - P.y) = e at *
      grobner
    exact g.decode (g.ladder hc hP hu h2 bits 255).1
/-! ### The other curve -/
def Opp (p q : NF n) : Prop := ∃ e : Fin n, e * e = 1 ∧ q.x = e * p.x ∧ q.z = -(e * p.z)
theorem opp_dbl {c : Fin n} {p q : NF n} (h : Opp p q) : Opp (dblF c p) (dblF (-1 - c) q) := by
  obtain ⟨e, he, hx, hz⟩ := h
  have he4 : e * e * (e * e) = 1 := by rw [he]; clear hx hz he; grobner
  refine ⟨1, by clear hx hz he he4; grobner, ?_, ?_⟩
  · unfold dblF
    rw [hx, hz]
    simp only
    have : ∀ x z : Fin n, (e * x + -(e * z)) * (e * x + -(e * z)) * ((e * x - -(e * z)) * (e * x - -(e * z))) = e * e * (e * e) * ((x + z) * (x + z) * ((x - z) * (x - z))) := by clear hx hz he he4; intro x z; grobner
    rw [this, he4]
  · unfold dblF
    rw [hx, hz]
    simp only
    have : ∀ x z : Fin n, ((e * x + -(e * z)) * (e * x + -(e * z)) - (e * x - -(e * z)) * (e * x - -(e * z))) * ((e * x + -(e * z)) * (e * x + -(e * z)) + ((e * x + -(e * z)) * (e * x + -(e * z)) - (e * x - -(e * z)) * (e * x - -(e * z))) * (-1 - c)) = - (e * e * (e * e) * (((x + z) * (x + z) - (x - z) * (x - z)) * ((x + z) * (x + z) + ((x + z) * (x + z) - (x - z) * (x - z)) * c))) := by clear hx hz he he4; intro x z; grobner
    rw [this, he4]
theorem opp_add {u : Fin n} {p q p' q' : NF n} (hp : Opp p p') (hq : Opp q q') : Opp (addF u p q) (addF (-u) p' q') := by
  obtain ⟨e, he, hx, hz⟩ := hp
  obtain ⟨f, hf, gx, gz⟩ := hq
  have he4 : e * e * (f * f) = 1 := by rw [he, hf]; clear hx hz he gx gz hf; grobner
  refine ⟨1, by clear hx hz he he4 gx gz hf; grobner, ?_, ?_⟩
  · unfold addF
    rw [hx, hz, gx, gz]
    simp only
    have : ∀ x z v w : Fin n, ((f * v - -(f * w)) * (e * x + -(e * z)) + (f * v + -(f * w)) * (e * x - -(e * z))) * ((f * v - -(f * w)) * (e * x + -(e * z)) + (f * v + -(f * w)) * (e * x - -(e * z))) = e * e * (f * f) * (((v - w) * (x + z) + (v + w) * (x - z)) * ((v - w) * (x + z) + (v + w) * (x - z))) := by clear hx hz he he4 gx gz hf; intro x z v w; grobner
    rw [this, he4]
  · unfold addF
    rw [hx, hz, gx, gz]
    simp only
    have : ∀ x z v w : Fin n, ((f * v - -(f * w)) * (e * x + -(e * z)) - (f * v + -(f * w)) * (e * x - -(e * z))) * ((f * v - -(f * w)) * (e * x + -(e * z)) - (f * v + -(f * w)) * (e * x - -(e * z))) * -u = -(e * e * (f * f) * (((v - w) * (x + z) - (v + w) * (x - z)) * ((v - w) * (x + z) - (v + w) * (x - z)) * u)) := by clear hx hz he he4 gx gz hf; intro x z v w; grobner
    rw [this, he4]
theorem opp_lad (c u : Fin n) (bits : Nat → Bool) (j : Nat) : Opp (ladF c bits u j).1 (ladF (-1 - c) bits (-u) j).1 ∧ Opp (ladF c bits u j).2 (ladF (-1 - c) bits (-u) j).2 := by
  induction j with
  | zero =>
    constructor
    · refine ⟨1, by grobner, ?_, ?_⟩
      · show (1 : Fin n) = 1 * 1
        grobner
      · show (0 : Fin n) = -(1 * 0)
        grobner
    · refine ⟨-1, by grobner, ?_, ?_⟩
      · show -u = -1 * u
        grobner
      · show (1 : Fin n) = -(-1 * 1)
        grobner
  | succ j ih =>
    rw [ladF, ladF]
    generalize ladF c bits u j = s at *
    generalize ladF (-1 - c) bits (-u) j = f at *
    obtain ⟨i1, i2⟩ := ih
    cases bits (254 - j)
    · rw [stepF, stepF, if_neg (by decide), if_neg (by decide)]
      exact ⟨opp_dbl i1, opp_add i1 i2⟩
    · rw [stepF, stepF, if_pos rfl, if_pos rfl]
      exact ⟨opp_add i2 i1, opp_dbl i2⟩
theorem Good.mult_opp (g : Good d) (c u : Fin n) (bits : Nat → Bool) : multF (-1 - c) bits (-u) = - multF c bits u := by
  obtain ⟨e, he, hx, hz⟩ := (opp_lad c u bits 255).1
  unfold multF
  rw [hx, hz]
  generalize (ladF c bits u 255).1.x = x
  generalize (ladF c bits u 255).1.z = z
  clear hx hz
  by_cases h : z = 0
  · rw [h, show -(e * 0) = (0 : Fin n) by clear he h; grobner, g.iv0]
    clear he h
    grobner
  · have e0 : e ≠ 0 := fun h => one_ne g.prime (by rw [h] at he; clear h; grobner)
    have h1 := mul_iv g.prime h
    have h2 : iv (-(e * z)) = -(e * iv z) := iv_unique g.prime (by generalize iv z = f at *; clear h e0; grobner)
    rw [h2]
    generalize iv z = f
    clear h h1 h2 e0
    grobner
end
end Plain
