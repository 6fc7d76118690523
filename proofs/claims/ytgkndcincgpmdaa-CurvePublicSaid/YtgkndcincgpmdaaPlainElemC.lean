/-
  A product of rows of limbs, as a number modulo P.
-/
import Derived.Test.YtgkndcincgpmdaaPlainElemB
namespace Plain
open Go Go.Sym
theorem acc_add (d : BitVec 128) (x y : BitVec 64) {N X Y : Nat} (hd : d.toNat = N) (hx : x.toNat = X) (hy : y.toNat = Y) (hN : N + X * Y < 340282366920938463463374607431768211456) : (d + prodD x y).toNat = N + X * Y := by
  subst hd hx hy
  rw [BitVec.toNat_add, prodD_nat]
  exact Nat.mod_eq_of_lt hN
theorem mul19 (a : BitVec 64) (h : a.toNat < 4503599627370496) : (a * 19#64).toNat = a.toNat * 19 := by
  rw [BitVec.toNat_mul, show (19#64).toNat = 19 from rfl]
  omega
theorem dbl_step (e : BitVec 128) (h : e.toNat < 41538374868278621028243970633760768) :
    (loD e &&& 2251799813685247#64).toNat + 2251799813685248 * (topD e).toNat = e.toNat ∧ (loD e &&& 2251799813685247#64).toNat < 2251799813685248 := by
  have h1 : (topD e).toNat = e.toNat / 2251799813685248 := by
    unfold topD
    rw [BitVec.toNat_setWidth, BitVec.toNat_ushiftRight, Nat.shiftRight_eq_div_pow]
    exact Nat.mod_eq_of_lt (by omega)
  rw [and51, loD_nat, h1]
  omega
theorem accM_five (a0 a1 a2 a3 a4 b0 b1 b2 b3 b4 : BitVec 64) : accM [a0, a1, a2, a3, a4] [b0, b1, b2, b3, b4] 25 =
    [0#128 + prodD a0 b0 + prodD (a1 * 19#64) b4 + prodD (a2 * 19#64) b3 + prodD (a3 * 19#64) b2 + prodD (a4 * 19#64) b1,
     0#128 + prodD a0 b1 + prodD a1 b0 + prodD (a2 * 19#64) b4 + prodD (a3 * 19#64) b3 + prodD (a4 * 19#64) b2,
     0#128 + prodD a0 b2 + prodD a1 b1 + prodD a2 b0 + prodD (a3 * 19#64) b4 + prodD (a4 * 19#64) b3,
     0#128 + prodD a0 b3 + prodD a1 b2 + prodD a2 b1 + prodD a3 b0 + prodD (a4 * 19#64) b4,
     0#128 + prodD a0 b4 + prodD a1 b3 + prodD a2 b2 + prodD a3 b1 + prodD a4 b0] := by
  simp [accM, List.replicate]
/-- The five sums, in numbers. -/
theorem accM_num (a0 a1 a2 a3 a4 b0 b1 b2 b3 b4 : BitVec 64) {A0 A1 A2 A3 A4 B0 B1 B2 B3 B4 : Nat}
    (ha0 : a0.toNat = A0) (ha1 : a1.toNat = A1) (ha2 : a2.toNat = A2) (ha3 : a3.toNat = A3) (ha4 : a4.toNat = A4)
    (hb0 : b0.toNat = B0) (hb1 : b1.toNat = B1) (hb2 : b2.toNat = B2) (hb3 : b3.toNat = B3) (hb4 : b4.toNat = B4)
    (la0 : A0 < 4503599627370496) (la1 : A1 < 4503599627370496) (la2 : A2 < 4503599627370496) (la3 : A3 < 4503599627370496) (la4 : A4 < 4503599627370496)
    (lb0 : B0 < 4503599627370496) (lb1 : B1 < 4503599627370496) (lb2 : B2 < 4503599627370496) (lb3 : B3 < 4503599627370496) (lb4 : B4 < 4503599627370496) :
    ∃ d0 d1 d2 d3 d4 : BitVec 128, accM [a0, a1, a2, a3, a4] [b0, b1, b2, b3, b4] 25 = [d0, d1, d2, d3, d4] ∧
      d0.toNat = 0 + A0 * B0 + A1 * 19 * B4 + A2 * 19 * B3 + A3 * 19 * B2 + A4 * 19 * B1 ∧ d1.toNat = 0 + A0 * B1 + A1 * B0 + A2 * 19 * B4 + A3 * 19 * B3 + A4 * 19 * B2 ∧
      d2.toNat = 0 + A0 * B2 + A1 * B1 + A2 * B0 + A3 * 19 * B4 + A4 * 19 * B3 ∧ d3.toNat = 0 + A0 * B3 + A1 * B2 + A2 * B1 + A3 * B0 + A4 * 19 * B4 ∧ d4.toNat = 0 + A0 * B4 + A1 * B3 + A2 * B2 + A3 * B1 + A4 * B0 := by
  have p : ∀ {X Y : Nat}, X < 4503599627370496 → Y < 4503599627370496 → X * Y ≤ 20282409603651670423947251286016 := fun h1 h2 => Nat.mul_le_mul (Nat.le_of_lt h1) (Nat.le_of_lt h2)
  have p19 : ∀ {X Y : Nat}, X < 4503599627370496 → Y < 4503599627370496 → X * 19 * Y ≤ 385365782469381738054997774434304 := fun {X Y} h1 h2 => Nat.mul_le_mul (show X * 19 ≤ 85568392920039424 by omega) (Nat.le_of_lt h2)
  have m19 : ∀ (x : BitVec 64) {X : Nat}, x.toNat = X → X < 4503599627370496 → (x * 19#64).toNat = X * 19 := fun x X h1 h2 => by rw [mul19 x (by omega), h1]
  have z : (0#128).toNat = 0 := rfl
  refine ⟨_, _, _, _, _, accM_five .., ?_, ?_, ?_, ?_, ?_⟩
  · have q0 := p la0 lb0; have q1 := p19 la1 lb4; have q2 := p19 la2 lb3; have q3 := p19 la3 lb2; have q4 := p19 la4 lb1
    exact acc_add _ _ _ (acc_add _ _ _ (acc_add _ _ _ (acc_add _ _ _ (acc_add _ _ _ z ha0 hb0 (by omega)) (m19 a1 ha1 la1) hb4 (by omega)) (m19 a2 ha2 la2) hb3 (by omega)) (m19 a3 ha3 la3) hb2 (by omega)) (m19 a4 ha4 la4) hb1 (by omega)
  · have q0 := p la0 lb1; have q1 := p la1 lb0; have q2 := p19 la2 lb4; have q3 := p19 la3 lb3; have q4 := p19 la4 lb2
    exact acc_add _ _ _ (acc_add _ _ _ (acc_add _ _ _ (acc_add _ _ _ (acc_add _ _ _ z ha0 hb1 (by omega)) ha1 hb0 (by omega)) (m19 a2 ha2 la2) hb4 (by omega)) (m19 a3 ha3 la3) hb3 (by omega)) (m19 a4 ha4 la4) hb2 (by omega)
  · have q0 := p la0 lb2; have q1 := p la1 lb1; have q2 := p la2 lb0; have q3 := p19 la3 lb4; have q4 := p19 la4 lb3
    exact acc_add _ _ _ (acc_add _ _ _ (acc_add _ _ _ (acc_add _ _ _ (acc_add _ _ _ z ha0 hb2 (by omega)) ha1 hb1 (by omega)) ha2 hb0 (by omega)) (m19 a3 ha3 la3) hb4 (by omega)) (m19 a4 ha4 la4) hb3 (by omega)
  · have q0 := p la0 lb3; have q1 := p la1 lb2; have q2 := p la2 lb1; have q3 := p la3 lb0; have q4 := p19 la4 lb4
    exact acc_add _ _ _ (acc_add _ _ _ (acc_add _ _ _ (acc_add _ _ _ (acc_add _ _ _ z ha0 hb3 (by omega)) ha1 hb2 (by omega)) ha2 hb1 (by omega)) ha3 hb0 (by omega)) (m19 a4 ha4 la4) hb4 (by omega)
  · have q0 := p la0 lb4; have q1 := p la1 lb3; have q2 := p la2 lb2; have q3 := p la3 lb1; have q4 := p la4 lb0
    exact acc_add _ _ _ (acc_add _ _ _ (acc_add _ _ _ (acc_add _ _ _ (acc_add _ _ _ z ha0 hb4 (by omega)) ha1 hb3 (by omega)) ha2 hb2 (by omega)) ha3 hb1 (by omega)) ha4 hb0 (by omega)
/-- The sums, carried. -/
theorem outM_num (d0 d1 d2 d3 d4 : BitVec 128) {M : Nat} (hM : M = 20769187434139310514121985316880384) (h0 : d0.toNat < M) (h1 : d1.toNat < M) (h2 : d2.toNat < M) (h3 : d3.toNat < M) (h4 : d4.toNat < M) :
    ∃ r : List (BitVec 64), lastM (outM [d0, d1, d2, d3, d4] 5).2 = r ∧ r.length = 5 ∧ (∀ x ∈ r, x.toNat < 9223372036854775808) ∧
      ∃ c : Nat, num5 r + 57896044618658097711785492504343953926634992332820282019728792003956564819949 * c = d0.toNat + 2251799813685248 * (d1.toNat + 2251799813685248 * (d2.toNat + 2251799813685248 * (d3.toNat + 2251799813685248 * d4.toNat))) := by
  subst hM
  have one : (1#64).toNat = 1 := rfl
  have step : ∀ (d : BitVec 128) (c : BitVec 64), d.toNat < 20769187434139310514121985316880384 → ∃ e : BitVec 128, d + prodD c 1#64 = e ∧ (loD e &&& 2251799813685247#64).toNat + 2251799813685248 * (topD e).toNat = d.toNat + c.toNat ∧ (loD e &&& 2251799813685247#64).toNat < 2251799813685248 := by
    intro d c hd
    have hc := c.isLt
    have he : (d + prodD c 1#64).toNat = d.toNat + c.toNat := by rw [acc_add d c 1#64 rfl rfl one (by omega), Nat.mul_one]
    refine ⟨_, rfl, ?_⟩
    rw [← he]
    exact dbl_step _ (by omega)
  obtain ⟨e0, r0, s0, t0⟩ := step d0 0#64 h0
  obtain ⟨e1, r1, s1, t1⟩ := step d1 (topD e0) h1
  obtain ⟨e2, r2, s2, t2⟩ := step d2 (topD e1) h2
  obtain ⟨e3, r3, s3, t3⟩ := step d3 (topD e2) h3
  obtain ⟨e4, r4, s4, t4⟩ := step d4 (topD e3) h4
  have ho : (outM [d0, d1, d2, d3, d4] 5).2 = ([loD e0 &&& 2251799813685247#64, loD e1 &&& 2251799813685247#64, loD e2 &&& 2251799813685247#64, loD e3 &&& 2251799813685247#64, loD e4 &&& 2251799813685247#64], topD e4) := by
    subst r0; subst r1; subst r2; subst r3; subst r4; rfl
  rw [ho]
  have z0 : (0#64).toNat = 0 := rfl
  rw [z0] at s0
  generalize loD e0 &&& 2251799813685247#64 = l0 at *
  generalize loD e1 &&& 2251799813685247#64 = l1 at *
  generalize loD e2 &&& 2251799813685247#64 = l2 at *
  generalize loD e3 &&& 2251799813685247#64 = l3 at *
  generalize loD e4 &&& 2251799813685247#64 = l4 at *
  generalize topD e0 = c0 at *
  generalize topD e1 = c1 at *
  generalize topD e2 = c2 at *
  generalize topD e3 = c3 at *
  generalize topD e4 = c4 at *
  obtain ⟨f, hf⟩ : ∃ f, f = l0.setWidth 128 + prodD c4 19#64 := ⟨_, rfl⟩
  have n19 : (19#64).toNat = 19 := rfl
  have hw : (l0.setWidth 128).toNat = l0.toNat := by
    rw [BitVec.toNat_setWidth]
    have := l0.isLt
    omega
  have hc4 := c4.isLt
  have hfn : f.toNat = l0.toNat + c4.toNat * 19 := by rw [hf]; exact acc_add _ _ _ hw rfl n19 (by omega)
  have hlast : lastM ([l0, l1, l2, l3, l4], c4) = [loD f &&& 2251799813685247#64, l1 + topD f, l2, l3, l4] := by rw [hf]; rfl
  obtain ⟨sf, tf⟩ := dbl_step f (by omega)
  generalize loD f &&& 2251799813685247#64 = g0 at *
  generalize topD f = cf at *
  have hl1 : (l1 + cf).toNat = l1.toNat + cf.toNat := add_small _ _ (by omega)
  refine ⟨_, hlast, rfl, ?_, c4.toNat, ?_⟩
  · rw [all5, hl1]; omega
  · simp only [num5, hl1]; omega
theorem prod_num (t A0 A1 A2 A3 A4 B0 B1 B2 B3 B4 : Nat) : (A0 + t * (A1 + t * (A2 + t * (A3 + t * (A4 + t * 0))))) * (B0 + t * (B1 + t * (B2 + t * (B3 + t * (B4 + t * 0))))) =
    A0 * B0 + t * (A0 * B1 + A1 * B0 + t * (A0 * B2 + A1 * B1 + A2 * B0 + t * (A0 * B3 + A1 * B2 + A2 * B1 + A3 * B0 + t * (A0 * B4 + A1 * B3 + A2 * B2 + A3 * B1 + A4 * B0)))) +
      t * t * t * t * t * (A1 * B4 + A2 * B3 + A3 * B2 + A4 * B1 + t * (A2 * B4 + A3 * B3 + A4 * B2 + t * (A3 * B4 + A4 * B3 + t * (A4 * B4)))) := by grind
theorem mul_el {l m : List (BitVec 64)} {v u : Nat} (hl : El l v) (hm : El m u) : El (mulL l m) (v * u % FP) := by
  obtain ⟨h1, h2, h3⟩ := hl
  obtain ⟨g1, g2, g3⟩ := hm
  obtain ⟨a0, a1, a2, a3, a4, rfl⟩ := list5 l h1
  obtain ⟨b0, b1, b2, b3, b4, rfl⟩ := list5 m g1
  rw [all5] at h2 g2
  obtain ⟨la0, la1, la2, la3, la4⟩ := h2
  obtain ⟨lb0, lb1, lb2, lb3, lb4⟩ := g2
  obtain ⟨d0, d1, d2, d3, d4, hd, e0, e1, e2, e3, e4⟩ := accM_num a0 a1 a2 a3 a4 b0 b1 b2 b3 b4 rfl rfl rfl rfl rfl rfl rfl rfl rfl rfl la0 la1 la2 la3 la4 lb0 lb1 lb2 lb3 lb4
  have hp := prod_num 2251799813685248 a0.toNat a1.toNat a2.toNat a3.toNat a4.toNat b0.toNat b1.toNat b2.toNat b3.toNat b4.toNat
  have p : ∀ {X Y : Nat}, X < 4503599627370496 → Y < 4503599627370496 → X * Y ≤ 20282409603651670423947251286016 := fun h1 h2 => Nat.mul_le_mul (Nat.le_of_lt h1) (Nat.le_of_lt h2)
  have q19 : ∀ X Y : Nat, X * 19 * Y = 19 * (X * Y) := fun X Y => by rw [Nat.mul_comm X 19, Nat.mul_assoc]
  rw [q19, q19, q19, q19] at e0
  rw [q19, q19, q19] at e1
  rw [q19, q19] at e2
  rw [q19] at e3
  have hv : num5 [a0, a1, a2, a3, a4] * num5 [b0, b1, b2, b3, b4] = _ := hp
  have y00 := p la0 lb0; have y01 := p la0 lb1; have y02 := p la0 lb2; have y03 := p la0 lb3; have y04 := p la0 lb4
  have y10 := p la1 lb0; have y11 := p la1 lb1; have y12 := p la1 lb2; have y13 := p la1 lb3; have y14 := p la1 lb4
  have y20 := p la2 lb0; have y21 := p la2 lb1; have y22 := p la2 lb2; have y23 := p la2 lb3; have y24 := p la2 lb4
  have y30 := p la3 lb0; have y31 := p la3 lb1; have y32 := p la3 lb2; have y33 := p la3 lb3; have y34 := p la3 lb4
  have y40 := p la4 lb0; have y41 := p la4 lb1; have y42 := p la4 lb2; have y43 := p la4 lb3; have y44 := p la4 lb4
  obtain ⟨r, hr, hrl, hrb, c, hc⟩ := outM_num d0 d1 d2 d3 d4 rfl (by omega) (by omega) (by omega) (by omega) (by omega)
  have hmul : mulL [a0, a1, a2, a3, a4] [b0, b1, b2, b3, b4] = carriedL r := by rw [mulL, hd, hr]
  rw [hmul]
  have h := carried_el r hrl hrb
  have e : num5 r % FP = v * u % FP := by
    rw [← h3, ← g3, ← Nat.mul_mod, hv]
    rw [e0, e1, e2, e3, e4] at hc
    simp only [FP]
    generalize a0.toNat * b0.toNat = z00 at *
    generalize a0.toNat * b1.toNat = z01 at *
    generalize a0.toNat * b2.toNat = z02 at *
    generalize a0.toNat * b3.toNat = z03 at *
    generalize a0.toNat * b4.toNat = z04 at *
    generalize a1.toNat * b0.toNat = z10 at *
    generalize a1.toNat * b1.toNat = z11 at *
    generalize a1.toNat * b2.toNat = z12 at *
    generalize a1.toNat * b3.toNat = z13 at *
    generalize a1.toNat * b4.toNat = z14 at *
    generalize a2.toNat * b0.toNat = z20 at *
    generalize a2.toNat * b1.toNat = z21 at *
    generalize a2.toNat * b2.toNat = z22 at *
    generalize a2.toNat * b3.toNat = z23 at *
    generalize a2.toNat * b4.toNat = z24 at *
    generalize a3.toNat * b0.toNat = z30 at *
    generalize a3.toNat * b1.toNat = z31 at *
    generalize a3.toNat * b2.toNat = z32 at *
    generalize a3.toNat * b3.toNat = z33 at *
    generalize a3.toNat * b4.toNat = z34 at *
    generalize a4.toNat * b0.toNat = z40 at *
    generalize a4.toNat * b1.toNat = z41 at *
    generalize a4.toNat * b2.toNat = z42 at *
    generalize a4.toNat * b3.toNat = z43 at *
    generalize a4.toNat * b4.toNat = z44 at *
    generalize num5 r = R at *
    clear hp hv h
    omega
  rw [e] at h
  exact h
end Plain
