/-
  The ladder over an Edwards curve.
-/
import Derived.Test.YtgkndcincgpmdaaPlainEdw
namespace Plain
theorem EP.ext' {n : Nat} {S T : EP n} (h1 : S.x = T.x) (h2 : S.y = T.y) : S = T := by
  cases S; cases T
  simp only at h1 h2
  rw [h1, h2]
section
variable {n : Nat} [NeZero n] {d : Fin n}
def zeroE : EP n := ⟨0, 1⟩
def negE (P : EP n) : EP n := ⟨-P.x, P.y⟩
theorem on_zero : onE d (zeroE : EP n) := by
  show (0 : Fin n) * 0 + 1 * 1 = 1 + d * (0 * 0 * (1 * 1))
  grobner
theorem on_neg {P : EP n} (h : onE d P) : onE d (negE P) := by
  have h1 : P.x * P.x + P.y * P.y = 1 + d * (P.x * P.x * (P.y * P.y)) := h
  show -P.x * -P.x + P.y * P.y = 1 + d * (-P.x * -P.x * (P.y * P.y))
  grobner
theorem zero_add' (hp : PrimeN n) (P : EP n) : addE d zeroE P = P := by
  have h : tE d zeroE P = 0 := by
    show d * (0 * P.x * (1 * P.y)) = 0
    grobner
  have h1 : iv (1 + tE d zeroE P) = 1 := iv_unique hp (by rw [h]; grobner)
  have h2 : iv (1 - tE d zeroE P) = 1 := iv_unique hp (by rw [h]; grobner)
  apply EP.ext'
  · show (0 * P.y + 1 * P.x) * iv (1 + tE d zeroE P) = P.x
    rw [h1]; grobner
  · show (1 * P.y - 0 * P.x) * iv (1 - tE d zeroE P) = P.y
    rw [h2]; grobner
theorem add_zero' (hp : PrimeN n) (P : EP n) : addE d P zeroE = P := by rw [addE_comm, zero_add' hp]
theorem Good.add_neg (g : Good d) {P : EP n} (h : onE d P) : addE d P (negE P) = zeroE := by
  have h1 : P.x * P.x + P.y * P.y = 1 + d * (P.x * P.x * (P.y * P.y)) := h
  have hx := g.add_x h (on_neg h)
  have hy := g.add_y h (on_neg h)
  have n1 := g.add1 h (on_neg h)
  have n2 := g.sub1 h (on_neg h)
  have ht : tE d P (negE P) = d * (P.x * -P.x * (P.y * P.y)) := rfl
  have e1 : (negE P).x = -P.x := rfl
  have e2 : (negE P).y = P.y := rfl
  rw [e1, e2] at hx hy
  apply EP.ext'
  · refine cancel_r g.prime n1 ?_
    rw [hx]
    show _ = 0 * (1 + tE d P (negE P))
    clear hx hy n1 n2 ht h1
    grobner
  · refine cancel_r g.prime n2 ?_
    rw [hy, ht]
    show _ = 1 * (1 - d * (P.x * -P.x * (P.y * P.y)))
    clear hx hy n1 n2 ht
    grobner
/-- So many times a point. -/
def mulE (d : Fin n) : Nat → EP n → EP n
  | 0, _ => zeroE
  | k + 1, P => addE d (mulE d k P) P
theorem Good.on_mul (g : Good d) {P : EP n} (h : onE d P) (k : Nat) : onE d (mulE d k P) := by
  induction k with
  | zero => exact on_zero
  | succ k ih => exact g.closed ih h
theorem Good.mul_add (g : Good d) {P : EP n} (h : onE d P) (a b : Nat) : mulE d (a + b) P = addE d (mulE d a P) (mulE d b P) := by
  induction b with
  | zero => exact (add_zero' g.prime _).symm
  | succ b ih =>
    show addE d (mulE d (a + b) P) P = addE d (mulE d a P) (addE d (mulE d b P) P)
    rw [ih, g.assoc (g.on_mul h a) (g.on_mul h b) h]
theorem Good.mul_mul (g : Good d) {P : EP n} (h : onE d P) (a b : Nat) : mulE d (a * b) P = mulE d a (mulE d b P) := by
  induction a with
  | zero => rw [Nat.zero_mul]; rfl
  | succ a ih =>
    rw [Nat.succ_mul, g.mul_add h, ih]; rfl
theorem Good.mul_comm (g : Good d) {P : EP n} (h : onE d P) (a b : Nat) : mulE d a (mulE d b P) = mulE d b (mulE d a P) := by
  rw [← g.mul_mul h, ← g.mul_mul h, Nat.mul_comm]
theorem Good.mul_zero (g : Good d) (k : Nat) : mulE d k (zeroE : EP n) = zeroE := by
  induction k with
  | zero => rfl
  | succ k ih => show addE d (mulE d k zeroE) zeroE = _; rw [ih, zero_add' g.prime]
/-- One point's order is parted by a prime: what is 0 is a multiple of it. -/
theorem Good.order (g : Good d) {P : EP n} (h : onE d P) {l m : Nat} (hl : mulE d l P = zeroE) (hm : mulE d m P = zeroE) (hc : Nat.Coprime l m) : P = zeroE := by
  induction l using Nat.strongRecOn generalizing m with
  | _ l ih =>
    by_cases h0 : l = 0
    · subst h0
      have : m = 1 := by simpa [Nat.Coprime] using hc
      subst this
      have h1 : mulE d 1 P = P := zero_add' g.prime P
      rw [← h1, hm]
    · refine ih (m % l) (Nat.mod_lt _ (by omega)) ?_ hl ?_
      · rw [← Nat.div_add_mod m l, g.mul_add h, Nat.mul_comm l, g.mul_mul h, hl, g.mul_zero, zero_add' g.prime] at hm
        exact hm
      · unfold Nat.Coprime at hc ⊢
        rw [← Nat.gcd_rec]; exact hc
/-! ### The ladder -/
structure NF (n : Nat) where
  x : Fin n
  z : Fin n
def dblF (c : Fin n) (p : NF n) : NF n :=
  ⟨(p.x + p.z) * (p.x + p.z) * ((p.x - p.z) * (p.x - p.z)),
   ((p.x + p.z) * (p.x + p.z) - (p.x - p.z) * (p.x - p.z)) * ((p.x + p.z) * (p.x + p.z) + ((p.x + p.z) * (p.x + p.z) - (p.x - p.z) * (p.x - p.z)) * c)⟩
def addF (u : Fin n) (p q : NF n) : NF n :=
  ⟨((q.x - q.z) * (p.x + p.z) + (q.x + q.z) * (p.x - p.z)) * ((q.x - q.z) * (p.x + p.z) + (q.x + q.z) * (p.x - p.z)),
   ((q.x - q.z) * (p.x + p.z) - (q.x + q.z) * (p.x - p.z)) * ((q.x - q.z) * (p.x + p.z) - (q.x + q.z) * (p.x - p.z)) * u⟩
theorem addF_comm (u : Fin n) (p q : NF n) : addF u p q = addF u q p := by
  unfold addF
  congr 1
  · grobner
  · grobner
def stepF (c u : Fin n) (b : Bool) (s : NF n × NF n) : NF n × NF n := if b then (addF u s.2 s.1, dblF c s.2) else (dblF c s.1, addF u s.1 s.2)
def ladF (c : Fin n) (bits : Nat → Bool) (u : Fin n) : Nat → NF n × NF n
  | 0 => (⟨1, 0⟩, ⟨u, 1⟩)
  | j + 1 => stepF c u (bits (254 - j)) (ladF c bits u j)
def Rep (P : EP n) (p : NF n) : Prop := ∃ l : Fin n, l ≠ 0 ∧ p.x = l * (1 + P.y) ∧ p.z = l * (1 - P.y)
theorem ring_dbl (c x y y2 : Fin n) (h : x * x + y * y = 1 + d * (x * x * (y * y))) (hc : c = d * (c + 1)) (h2 : y2 * (1 - d * (x * x * (y * y))) = y * y - x * x) :
    (c + 1) * (1 - d * (y * y)) * (1 - d * (x * x * (y * y))) * (1 + y2) = 2 * (y * y) ∧ (c + 1) * (1 - d * (y * y)) * (1 - d * (x * x * (y * y))) * (1 - y2) = 2 * ((1 - y * y) * (1 + c * (1 - y * y))) := by
  constructor
  · grobner
  · grobner
theorem id_d1 (l y : Fin n) : (l * (1 + y) + l * (1 - y)) * (l * (1 + y) + l * (1 - y)) * ((l * (1 + y) - l * (1 - y)) * (l * (1 + y) - l * (1 - y))) = 8 * (l * l * (l * l)) * (2 * (y * y)) := by grobner
theorem id_d2 (c l y : Fin n) : ((l * (1 + y) + l * (1 - y)) * (l * (1 + y) + l * (1 - y)) - (l * (1 + y) - l * (1 - y)) * (l * (1 + y) - l * (1 - y))) * ((l * (1 + y) + l * (1 - y)) * (l * (1 + y) + l * (1 - y)) + ((l * (1 + y) + l * (1 - y)) * (l * (1 + y) + l * (1 - y)) - (l * (1 + y) - l * (1 - y)) * (l * (1 + y) - l * (1 - y))) * c) = 8 * (l * l * (l * l)) * (2 * ((1 - y * y) * (1 + c * (1 - y * y)))) := by grobner
theorem Good.eight (g : Good d) : (8 : Fin n) ≠ 0 := by
  have h := mul_ne g.prime (mul_ne g.prime g.two g.two) g.two
  rw [show (2 : Fin n) * 2 * 2 = 8 by grobner] at h
  exact h
theorem Good.c1 (g : Good d) {c : Fin n} (hc : c = d * (c + 1)) : c + 1 ≠ 0 := fun h => one_ne g.prime (by grobner)
theorem Good.ny (g : Good d) (y : Fin n) : 1 - d * (y * y) ≠ 0 := fun h => by
  by_cases hy : y = 0
  · subst hy; exact one_ne g.prime (by grobner)
  · exact g.nsq (a := 1) hy (by grobner)
theorem Good.dbl (g : Good d) {c : Fin n} (hc : c = d * (c + 1)) {P : EP n} {p : NF n} (hP : onE d P) (h : Rep P p) : Rep (addE d P P) (dblF c p) := by
  obtain ⟨l, hl, hx, hz⟩ := h
  have hy := g.add_y hP hP
  have n2 := g.sub1 hP hP
  rw [show tE d P P = d * (P.x * P.x * (P.y * P.y)) from rfl] at hy n2
  obtain ⟨r1, r2⟩ := ring_dbl c P.x P.y (addE d P P).y hP hc hy
  refine ⟨8 * (l * l * (l * l)) * ((c + 1) * (1 - d * (P.y * P.y)) * (1 - d * (P.x * P.x * (P.y * P.y)))), ?_, ?_, ?_⟩
  · exact mul_ne g.prime (mul_ne g.prime g.eight (mul_ne g.prime (mul_ne g.prime hl hl) (mul_ne g.prime hl hl))) (mul_ne g.prime (mul_ne g.prime (g.c1 hc) (g.ny _)) n2)
  · unfold dblF
    rw [hx, hz]
    simp only
    rw [id_d1, Fin.mul_assoc (8 * (l * l * (l * l))), r1]
  · unfold dblF
    rw [hx, hz]
    simp only
    rw [id_d2, Fin.mul_assoc (8 * (l * l * (l * l))), r2]
theorem ring_dadd (x1 y1 x2 y2 t : Fin n) (h1 : x1 * x1 + y1 * y1 = 1 + d * (x1 * x1 * (y1 * y1))) (h2 : x2 * x2 + y2 * y2 = 1 + d * (x2 * x2 * (y2 * y2))) (ht : t = d * (x1 * x2 * (y1 * y2))) :
    (y1 + y2) * (y1 + y2) * (1 - d * (x1 * x2 * (x1 * x2))) = (1 + t + (y1 * y2 + x1 * x2)) * (1 - t + (y1 * y2 - x1 * x2)) ∧ (y1 - y2) * (y1 - y2) * (1 - d * (x1 * x2 * (x1 * x2))) = (1 + t - (y1 * y2 + x1 * x2)) * (1 - t - (y1 * y2 - x1 * x2)) := by
  subst ht
  constructor
  · grobner
  · grobner
theorem id_s1 (l1 l2 y1 y2 : Fin n) : (l2 * (1 + y2) - l2 * (1 - y2)) * (l1 * (1 + y1) + l1 * (1 - y1)) = 4 * (l1 * l2) * y2 := by grobner
theorem id_s2 (l1 l2 y1 y2 : Fin n) : (l2 * (1 + y2) + l2 * (1 - y2)) * (l1 * (1 + y1) - l1 * (1 - y1)) = 4 * (l1 * l2) * y1 := by grobner
theorem id_s4 (w a b : Fin n) : w * a + w * b = w * (a + b) := by grobner
theorem id_s5 (w a b : Fin n) : w * a - w * b = w * (a - b) := by grobner
theorem id_s3 (w k m a b c : Fin n) (hk : k * m = 1) (h : a * a * k = b * c) : w * a * (w * a) = w * w * m * (b * c) := by
  have : a * a = m * (b * c) := by rw [← h]; grobner
  grobner
theorem Good.dadd (g : Good d) {u : Fin n} {P Q P0 : EP n} {p q : NF n} (hP : onE d P) (h0 : onE d P0) (hQ : addE d P P0 = Q) (hp : Rep P p) (hq : Rep Q q) (hu : u * (1 - P0.y) = 1 + P0.y) (hm : 1 + P0.y ≠ 0) :
    Rep (addE d P Q) (addF u p q) := by
  have onQ : onE d Q := hQ ▸ g.closed hP h0
  have hd : addE d Q (negE P) = P0 := by
    rw [← hQ, addE_comm P P0, g.assoc h0 hP (on_neg hP), g.add_neg hP, add_zero' g.prime]
  have hy0 := g.add_y onQ (on_neg hP)
  have hyS := g.add_y hP onQ
  rw [hd] at hy0
  have ht : tE d Q (negE P) = - tE d P Q := by
    show d * (Q.x * -P.x * (Q.y * P.y)) = - (d * (P.x * Q.x * (P.y * Q.y)))
    clear hy0 hyS hm hu hd hQ
    grobner
  have e0 : P0.y * (1 + tE d P Q) = P.y * Q.y + P.x * Q.x := by
    rw [ht] at hy0
    have e1 : (negE P).x = -P.x := rfl
    have e2 : (negE P).y = P.y := rfl
    rw [e1, e2] at hy0
    clear hyS hm hu hd hQ ht
    generalize tE d P Q = t at *
    grobner
  obtain ⟨r1, r2⟩ := ring_dadd P.x P.y Q.x Q.y (tE d P Q) hP onQ rfl
  rw [← e0, ← hyS] at r1 r2
  have n1 := g.add1 hP onQ
  have n2 := g.sub1 hP onQ
  have hk := g.ny (P.x * Q.x)
  have hkm := mul_iv g.prime hk
  obtain ⟨l1, hl1, hx1, hz1⟩ := hp
  obtain ⟨l2, hl2, hx2, hz2⟩ := hq
  generalize iv (1 - d * (P.x * Q.x * (P.x * Q.x))) = m at hkm
  have hm0 : m ≠ 0 := fun h => one_ne g.prime (by rw [h] at hkm; grobner)
  generalize 1 - d * (P.x * Q.x * (P.x * Q.x)) = k at r1 r2 hkm
  obtain ⟨yS, hyS0⟩ : ∃ v, v = (addE d P Q).y := ⟨_, rfl⟩
  rw [← hyS0] at r1 r2 hyS
  generalize tE d P Q = t at *
  have four : (4 : Fin n) ≠ 0 := by
    have h := mul_ne g.prime g.two g.two
    rw [show (2 : Fin n) * 2 = 4 by grobner] at h
    exact h
  have hw := mul_ne g.prime four (mul_ne g.prime hl1 hl2)
  refine ⟨4 * (l1 * l2) * (4 * (l1 * l2)) * m * ((1 + t) * (1 - t) * (1 + P0.y)), ?_, ?_, ?_⟩
  · exact mul_ne g.prime (mul_ne g.prime (mul_ne g.prime hw hw) hm0) (mul_ne g.prime (mul_ne g.prime n1 n2) hm)
  · unfold addF
    rw [hx1, hz1, hx2, hz2]
    simp only
    rw [id_s1, id_s2, id_s4, id_s3 (4 * (l1 * l2)) k m (Q.y + P.y) (1 + t + P0.y * (1 + t)) (1 - t + yS * (1 - t)) hkm (by rw [← r1]; clear r1 r2; grobner)]
    rw [← hyS0]
    generalize 4 * (l1 * l2) * (4 * (l1 * l2)) = w
    clear r1 r2 hx1 hz1 hx2 hz2 e0 hyS hy0 hu hkm ht hP h0 onQ
    grobner
  · unfold addF
    rw [hx1, hz1, hx2, hz2]
    simp only
    rw [id_s1, id_s2, id_s5, id_s3 (4 * (l1 * l2)) k m (Q.y - P.y) (1 + t - P0.y * (1 + t)) (1 - t - yS * (1 - t)) hkm (by rw [← r2]; clear r1 r2; grobner)]
    rw [← hyS0]
    generalize 4 * (l1 * l2) * (4 * (l1 * l2)) = w
    clear r1 r2 hx1 hz1 hx2 hz2 e0 hyS hy0 hkm ht hP h0 onQ
    grobner
/-- The number of a key's first bits. -/
def kN (bits : Nat → Bool) : Nat → Nat
  | 0 => 0
  | j + 1 => 2 * kN bits j + (if bits (254 - j) then 1 else 0)
theorem Good.ladder (g : Good d) {c u : Fin n} (hc : c = d * (c + 1)) {P : EP n} (hP : onE d P) (hu : u * (1 - P.y) = 1 + P.y) (h1 : 1 + P.y ≠ 0) (bits : Nat → Bool) (j : Nat) :
    Rep (mulE d (kN bits j) P) (ladF c bits u j).1 ∧ Rep (mulE d (kN bits j + 1) P) (ladF c bits u j).2 := by
  have h2 : 1 - P.y ≠ 0 := fun h => h1 (by rw [← hu, h]; grobner)
  induction j with
  | zero =>
    constructor
    · have hi := mul_iv g.prime g.two
      refine ⟨iv 2, fun h => ?_, ?_, ?_⟩
      · rw [h] at hi
        exact one_ne g.prime (by grobner)
      · show (1 : Fin n) = iv 2 * (1 + 1)
        generalize iv (2 : Fin n) = e at hi ⊢
        clear hu h1 h2
        grobner
      · show (0 : Fin n) = iv 2 * (1 - 1)
        generalize iv (2 : Fin n) = e at hi ⊢
        clear hu h1 h2
        grobner
    · have hi := mul_iv g.prime h2
      have e1 : mulE d (kN bits 0 + 1) P = P := zero_add' g.prime P
      rw [e1]
      refine ⟨iv (1 - P.y), fun h => ?_, ?_, ?_⟩
      · rw [h] at hi
        exact one_ne g.prime (by grobner)
      · show u = iv (1 - P.y) * (1 + P.y)
        generalize iv (1 - P.y) = e at hi ⊢
        clear h1 h2
        grobner
      · show 1 = iv (1 - P.y) * (1 - P.y)
        generalize iv (1 - P.y) = e at hi ⊢
        clear hu h1 h2
        grobner
  | succ j ih =>
    obtain ⟨i1, i2⟩ := ih
    rw [ladF, kN]
    generalize ladF c bits u j = s at *
    generalize kN bits j = k at *
    have hk := g.on_mul hP k
    have hk1 := g.on_mul hP (k + 1)
    have ha := g.dadd hk hP rfl i1 i2 hu h1
    rw [show addE d (mulE d k P) P = mulE d (k + 1) P from rfl, ← g.mul_add hP] at ha
    have d1 := g.dbl hc hk i1
    have d2 := g.dbl hc hk1 i2
    rw [← g.mul_add hP] at d1 d2
    cases bits (254 - j)
    · rw [stepF, if_neg (by decide), if_neg (by decide)]
      rw [show k + k = 2 * k + 0 by omega] at d1
      rw [show k + (k + 1) = 2 * k + 0 + 1 by omega] at ha
      exact ⟨d1, ha⟩
    · rw [stepF, if_pos rfl, if_pos rfl]
      rw [show k + (k + 1) = 2 * k + 1 by omega, addF_comm] at ha
      rw [show k + 1 + (k + 1) = 2 * k + 1 + 1 by omega] at d2
      exact ⟨ha, d2⟩
end
end Plain
