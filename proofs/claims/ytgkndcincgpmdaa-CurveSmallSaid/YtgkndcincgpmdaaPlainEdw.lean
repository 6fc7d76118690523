/-
  Edwards curves over the remainders modulo a prime: sums go together.
-/
import Derived.Test.YtgkndcincgpmdaaPlainPrime
namespace Plain
/-! ### A field: the remainders modulo a prime -/
section
variable {n : Nat} [NeZero n]
/-- One over a number, and 0 for 0. -/
def iv (a : Fin n) : Fin n := Fin.ofNat n (a.val ^ (n - 2))
theorem fin_eq_zero {a : Fin n} : a = 0 ↔ a.val = 0 := by
  constructor
  · rintro rfl; rfl
  · intro h; exact Fin.ext h
theorem one_ne (hp : PrimeN n) : (1 : Fin n) ≠ 0 := by
  intro h
  have h1 := congrArg Fin.val h
  have h2 : ((1 : Fin n)).val = 1 % n := rfl
  have h3 : ((0 : Fin n)).val = 0 := rfl
  rw [h2, h3, Nat.mod_eq_of_lt hp.1] at h1
  omega
theorem mul_iv (hp : PrimeN n) {a : Fin n} (h : a ≠ 0) : a * iv a = 1 := by
  have h0 : ¬ n ∣ a.val := fun hd => by
    have h1 : a.val ≠ 0 := fun h1 => h (fin_eq_zero.2 h1)
    have := Nat.le_of_dvd (by omega) hd
    have := a.isLt
    omega
  have hf := fermat hp h0
  have h2 := hp.1
  apply Fin.ext
  rw [Fin.val_mul]
  have e1 : (iv a).val = a.val ^ (n - 2) % n := rfl
  have e2 : ((1 : Fin n)).val = 1 % n := rfl
  rw [e1, e2, Nat.mul_mod, Nat.mod_mod, ← Nat.mul_mod, ← Nat.pow_succ', Nat.mod_eq_of_lt (show 1 < n by omega)]
  rw [show (n - 2).succ = n - 1 by omega]
  exact hf
theorem iv_zero (h2 : 2 < n) : iv (0 : Fin n) = 0 := by
  apply Fin.ext
  show 0 ^ (n - 2) % n = 0
  rw [Nat.zero_pow (by omega), Nat.zero_mod]
theorem mul_zero' (hp : PrimeN n) {a b : Fin n} (h : a * b = 0) : a = 0 ∨ b = 0 := by
  by_cases ha : a = 0
  · exact .inl ha
  · right
    have h1 := mul_iv hp ha
    generalize iv a = c at h1
    grobner
theorem mul_ne (hp : PrimeN n) {a b : Fin n} (ha : a ≠ 0) (hb : b ≠ 0) : a * b ≠ 0 := fun h => by
  rcases mul_zero' hp h with h | h
  · exact ha h
  · exact hb h
theorem cancel_r (hp : PrimeN n) {a b c : Fin n} (hc : c ≠ 0) (h : a * c = b * c) : a = b := by
  have h1 := mul_iv hp hc
  generalize iv c = e at h1
  grobner
theorem iv_unique (hp : PrimeN n) {a b : Fin n} (h : a * b = 1) : iv a = b := by
  have ha : a ≠ 0 := fun h0 => one_ne hp (by rw [h0] at h; grobner)
  have h1 := mul_iv hp ha
  generalize iv a = e at h1 ⊢
  grobner
/-! ### Edwards curves -/
structure EP (n : Nat) where
  x : Fin n
  y : Fin n
def onE (d : Fin n) (P : EP n) : Prop := P.x * P.x + P.y * P.y = 1 + d * (P.x * P.x * (P.y * P.y))
def tE (d : Fin n) (P Q : EP n) : Fin n := d * (P.x * Q.x * (P.y * Q.y))
def addE (d : Fin n) (P Q : EP n) : EP n := ⟨(P.x * Q.y + P.y * Q.x) * iv (1 + tE d P Q), (P.y * Q.y - P.x * Q.x) * iv (1 - tE d P Q)⟩
structure Good (d : Fin n) : Prop where
  prime : PrimeN n
  two : (2 : Fin n) ≠ 0
  ns : ∀ s : Fin n, s * s ≠ d
variable {d : Fin n}
theorem Good.nsq (g : Good d) {a b : Fin n} (hb : b ≠ 0) : a * a ≠ d * (b * b) := fun h => by
  have h1 := mul_iv g.prime hb
  refine g.ns (a * iv b) ?_
  generalize iv b = e at h1 ⊢
  grobner
theorem ring_sq1 (x1 y1 x2 y2 t : Fin n) (h1 : x1 * x1 + y1 * y1 = 1 + d * (x1 * x1 * (y1 * y1))) (h2 : x2 * x2 + y2 * y2 = 1 + d * (x2 * x2 * (y2 * y2))) (ht : t = d * (x1 * x2 * (y1 * y2))) (h : t * t = 1) :
    (x1 + t * y1) * (x1 + t * y1) = d * ((x1 * y1 * (x2 + y2)) * (x1 * y1 * (x2 + y2))) ∧ (x1 - t * y1) * (x1 - t * y1) = d * ((x1 * y1 * (x2 - y2)) * (x1 * y1 * (x2 - y2))) := by
  have e1 : d * ((x1 * y1 * (x2 + y2)) * (x1 * y1 * (x2 + y2))) = d * (x1 * x1 * (y1 * y1)) * (x2 * x2 + y2 * y2) + 2 * (x1 * y1) * (d * (x1 * x2 * (y1 * y2))) := by grobner
  have e2 : d * ((x1 * y1 * (x2 - y2)) * (x1 * y1 * (x2 - y2))) = d * (x1 * x1 * (y1 * y1)) * (x2 * x2 + y2 * y2) - 2 * (x1 * y1) * (d * (x1 * x2 * (y1 * y2))) := by grobner
  have e3 : d * (x1 * x1 * (y1 * y1)) * (1 + d * (x2 * x2 * (y2 * y2))) = d * (x1 * x1 * (y1 * y1)) + (d * (x1 * x2 * (y1 * y2))) * (d * (x1 * x2 * (y1 * y2))) := by grobner
  rw [e1, e2, h2, e3, ← ht, h]
  have e4 : d * (x1 * x1 * (y1 * y1)) = x1 * x1 + y1 * y1 - 1 := by grobner
  rw [e4]
  constructor <;> grobner
theorem Good.complete (g : Good d) {P Q : EP n} (hP : onE d P) (hQ : onE d Q) : tE d P Q * tE d P Q ≠ 1 := fun h => by
  obtain ⟨s1, s2⟩ := ring_sq1 P.x P.y Q.x Q.y (tE d P Q) hP hQ rfl h
  have n1 := fun hb => g.nsq hb s1
  have n2 := fun hb => g.nsq hb s2
  have z1 : P.x * P.y * (Q.x + Q.y) = 0 := Classical.byContradiction n1
  have z2 : P.x * P.y * (Q.x - Q.y) = 0 := Classical.byContradiction n2
  have z3 : 2 * (P.x * P.y * Q.x) = 0 := by grobner
  have z4 : P.x * P.y * Q.x = 0 := by
    rcases mul_zero' g.prime z3 with h | h
    · exact absurd h g.two
    · exact h
  have z5 : tE d P Q = 0 := by
    unfold tE
    grobner
  rw [z5] at h
  exact one_ne g.prime (by grobner)
theorem Good.add1 (g : Good d) {P Q : EP n} (hP : onE d P) (hQ : onE d Q) : 1 + tE d P Q ≠ 0 := fun h => g.complete hP hQ (by generalize tE d P Q = t at h; grobner)
theorem Good.sub1 (g : Good d) {P Q : EP n} (hP : onE d P) (hQ : onE d Q) : 1 - tE d P Q ≠ 0 := fun h => g.complete hP hQ (by generalize tE d P Q = t at h; grobner)
theorem Good.add_x (g : Good d) {P Q : EP n} (hP : onE d P) (hQ : onE d Q) : (addE d P Q).x * (1 + tE d P Q) = P.x * Q.y + P.y * Q.x := by
  have h := mul_iv g.prime (g.add1 hP hQ)
  show (P.x * Q.y + P.y * Q.x) * iv (1 + tE d P Q) * (1 + tE d P Q) = _
  generalize iv (1 + tE d P Q) = e at h ⊢
  grobner
theorem Good.add_y (g : Good d) {P Q : EP n} (hP : onE d P) (hQ : onE d Q) : (addE d P Q).y * (1 - tE d P Q) = P.y * Q.y - P.x * Q.x := by
  have h := mul_iv g.prime (g.sub1 hP hQ)
  show (P.y * Q.y - P.x * Q.x) * iv (1 - tE d P Q) * (1 - tE d P Q) = _
  generalize iv (1 - tE d P Q) = e at h ⊢
  grobner
theorem id_c1 (X Y t : Fin n) : (X * X + Y * Y) * ((1 + t) * (1 - t) * ((1 + t) * (1 - t))) = X * (1 + t) * (X * (1 + t)) * ((1 - t) * (1 - t)) + Y * (1 - t) * (Y * (1 - t)) * ((1 + t) * (1 + t)) := by grobner
theorem id_c2 (d X Y t : Fin n) : (1 + d * (X * X * (Y * Y))) * ((1 + t) * (1 - t) * ((1 + t) * (1 - t))) = (1 + t) * (1 + t) * ((1 - t) * (1 - t)) + d * (X * (1 + t) * (X * (1 + t)) * (Y * (1 - t) * (Y * (1 - t)))) := by grobner
theorem id_a1 (d A B C D t u px py rx ry : Fin n) : (A * ry + B * rx) * (1 + d * (px * C * (py * D))) * ((1 + t) * (1 - t) * ((1 + u) * (1 - u))) = (A * (1 + t) * (1 - t) * ry + B * (1 - t) * (1 + t) * rx) * ((1 - u) * (1 + u) + d * (C * (1 + u) * (D * (1 - u)) * (px * py))) := by grobner
theorem id_a2 (d A B C D t u px py rx ry : Fin n) : (px * D + py * C) * (1 + d * (A * rx * (B * ry))) * ((1 + t) * (1 - t) * ((1 + u) * (1 - u))) = (C * (1 + u) * (1 - u) * py + D * (1 - u) * (1 + u) * px) * ((1 - t) * (1 + t) + d * (A * (1 + t) * (B * (1 - t)) * (rx * ry))) := by grobner
theorem id_a3 (d A B C D t u px py rx ry : Fin n) : (B * ry - A * rx) * (1 - d * (px * C * (py * D))) * ((1 + t) * (1 - t) * ((1 + u) * (1 - u))) = (B * (1 - t) * (1 + t) * ry - A * (1 + t) * (1 - t) * rx) * ((1 - u) * (1 + u) - d * (C * (1 + u) * (D * (1 - u)) * (px * py))) := by grobner
theorem id_a4 (d A B C D t u px py rx ry : Fin n) : (py * D - px * C) * (1 - d * (A * rx * (B * ry))) * ((1 + t) * (1 - t) * ((1 + u) * (1 - u))) = (D * (1 - u) * (1 + u) * py - C * (1 + u) * (1 - u) * px) * ((1 - t) * (1 + t) - d * (A * (1 + t) * (B * (1 - t)) * (rx * ry))) := by grobner
theorem ring_closed (x1 y1 x2 y2 : Fin n) (h1 : x1 * x1 + y1 * y1 = 1 + d * (x1 * x1 * (y1 * y1))) (h2 : x2 * x2 + y2 * y2 = 1 + d * (x2 * x2 * (y2 * y2))) :
    (x1*y2+y1*x2)*(x1*y2+y1*x2)*((1 - d*(x1*x2*(y1*y2)))*(1 - d*(x1*x2*(y1*y2)))) + (y1*y2-x1*x2)*(y1*y2-x1*x2)*((1 + d*(x1*x2*(y1*y2)))*(1 + d*(x1*x2*(y1*y2)))) = (1 + d*(x1*x2*(y1*y2)))*(1 + d*(x1*x2*(y1*y2)))*((1 - d*(x1*x2*(y1*y2)))*(1 - d*(x1*x2*(y1*y2)))) + d*((x1*y2+y1*x2)*(x1*y2+y1*x2)*((y1*y2-x1*x2)*(y1*y2-x1*x2))) := by
  grobner
theorem Good.closed (g : Good d) {P Q : EP n} (hP : onE d P) (hQ : onE d Q) : onE d (addE d P Q) := by
  have hx := g.add_x hP hQ
  have hy := g.add_y hP hQ
  have h1 := g.add1 hP hQ
  have h2 := g.sub1 hP hQ
  have hr := ring_closed P.x P.y Q.x Q.y hP hQ
  rw [← hx, ← hy, show d * (P.x * Q.x * (P.y * Q.y)) = tE d P Q from rfl] at hr
  unfold onE
  generalize tE d P Q = t at *
  generalize (addE d P Q).x = X at *
  generalize (addE d P Q).y = Y at *
  have h3 := mul_ne g.prime h1 h2
  refine cancel_r g.prime (mul_ne g.prime h3 h3) ?_
  rw [id_c1, id_c2, hr]
theorem addE_comm (P Q : EP n) : addE d P Q = addE d Q P := by
  have h : tE d P Q = tE d Q P := by unfold tE; grobner
  unfold addE
  rw [h, show P.x * Q.y + P.y * Q.x = Q.x * P.y + Q.y * P.x by grobner, show P.y * Q.y - P.x * Q.x = Q.y * P.y - Q.x * P.x by grobner]
theorem ring_assocx (x1 y1 x2 y2 x3 y3 : Fin n) (h1 : x1*x1+y1*y1=1+d*(x1*x1*(y1*y1))) (h2 : x2*x2+y2*y2=1+d*(x2*x2*(y2*y2))) (h3 : x3*x3+y3*y3=1+d*(x3*x3*(y3*y3))) :
    ((x1*y2+y1*x2)*(1-d*(x1*x2*(y1*y2)))*y3 + (y1*y2-x1*x2)*(1+d*(x1*x2*(y1*y2)))*x3) * ((1-d*(x2*x3*(y2*y3)))*(1+d*(x2*x3*(y2*y3))) + d*((x2*y3+y2*x3)*(y2*y3-x2*x3)*(x1*y1)))
    = ((x2*y3+y2*x3)*(1-d*(x2*x3*(y2*y3)))*y1 + (y2*y3-x2*x3)*(1+d*(x2*x3*(y2*y3)))*x1) * ((1-d*(x1*x2*(y1*y2)))*(1+d*(x1*x2*(y1*y2))) + d*((x1*y2+y1*x2)*(y1*y2-x1*x2)*(x3*y3))) := by
  grobner
theorem ring_assocy (x1 y1 x2 y2 x3 y3 : Fin n) (h1 : x1*x1+y1*y1=1+d*(x1*x1*(y1*y1))) (h2 : x2*x2+y2*y2=1+d*(x2*x2*(y2*y2))) (h3 : x3*x3+y3*y3=1+d*(x3*x3*(y3*y3))) :
    ((y1*y2-x1*x2)*(1+d*(x1*x2*(y1*y2)))*y3 - (x1*y2+y1*x2)*(1-d*(x1*x2*(y1*y2)))*x3) * ((1-d*(x2*x3*(y2*y3)))*(1+d*(x2*x3*(y2*y3))) - d*((x2*y3+y2*x3)*(y2*y3-x2*x3)*(x1*y1)))
    = ((y2*y3-x2*x3)*(1+d*(x2*x3*(y2*y3)))*y1 - (x2*y3+y2*x3)*(1-d*(x2*x3*(y2*y3)))*x1) * ((1-d*(x1*x2*(y1*y2)))*(1+d*(x1*x2*(y1*y2))) - d*((x1*y2+y1*x2)*(y1*y2-x1*x2)*(x3*y3))) := by
  grobner
theorem Good.assoc (g : Good d) {P Q R : EP n} (hP : onE d P) (hQ : onE d Q) (hR : onE d R) : addE d (addE d P Q) R = addE d P (addE d Q R) := by
  have hA := g.closed hP hQ
  have hB := g.closed hQ hR
  have ax := g.add_x hP hQ
  have ay := g.add_y hP hQ
  have bx := g.add_x hQ hR
  have bY := g.add_y hQ hR
  have lx := g.add_x hA hR
  have ly := g.add_y hA hR
  have mx := g.add_x hP hB
  have my := g.add_y hP hB
  have n1 := g.add1 hP hQ
  have n2 := g.sub1 hP hQ
  have n3 := g.add1 hQ hR
  have n4 := g.sub1 hQ hR
  have n5 := g.add1 hA hR
  have n6 := g.sub1 hA hR
  have n7 := g.add1 hP hB
  have n8 := g.sub1 hP hB
  have hx := ring_assocx P.x P.y Q.x Q.y R.x R.y hP hQ hR
  have hy := ring_assocy P.x P.y Q.x Q.y R.x R.y hP hQ hR
  rw [← ax, ← ay, ← bx, ← bY, show d * (P.x * Q.x * (P.y * Q.y)) = tE d P Q from rfl, show d * (Q.x * R.x * (Q.y * R.y)) = tE d Q R from rfl] at hx hy
  have t5 : tE d (addE d P Q) R = d * ((addE d P Q).x * R.x * ((addE d P Q).y * R.y)) := rfl
  have t6 : tE d P (addE d Q R) = d * (P.x * (addE d Q R).x * (P.y * (addE d Q R).y)) := rfl
  have ht1 := mul_ne g.prime n1 n2
  have ht2 := mul_ne g.prime n3 n4
  have hw := mul_ne g.prime ht1 ht2
  have hX : (addE d (addE d P Q) R).x = (addE d P (addE d Q R)).x := by
    refine cancel_r g.prime (mul_ne g.prime n5 n7) ?_
    rw [← Fin.mul_assoc, lx, Fin.mul_comm (1 + tE d (addE d P Q) R), ← Fin.mul_assoc, mx]
    rw [t5, t6]
    generalize tE d P Q = t at *
    generalize tE d Q R = u at *
    generalize (addE d P Q).x = A at *
    generalize (addE d P Q).y = B at *
    generalize (addE d Q R).x = C at *
    generalize (addE d Q R).y = D at *
    refine cancel_r g.prime hw ?_
    rw [id_a1, id_a2, hx]
  have hY : (addE d (addE d P Q) R).y = (addE d P (addE d Q R)).y := by
    refine cancel_r g.prime (mul_ne g.prime n6 n8) ?_
    rw [← Fin.mul_assoc, ly, Fin.mul_comm (1 - tE d (addE d P Q) R), ← Fin.mul_assoc, my]
    rw [t5, t6]
    generalize tE d P Q = t at *
    generalize tE d Q R = u at *
    generalize (addE d P Q).x = A at *
    generalize (addE d P Q).y = B at *
    generalize (addE d Q R).x = C at *
    generalize (addE d Q R).y = D at *
    refine cancel_r g.prime hw ?_
    rw [id_a3, id_a4, hy]
  have ext : ∀ S T : EP n, S.x = T.x → S.y = T.y → S = T := by
    intro S T h1 h2
    cases S; cases T
    simp only at h1 h2
    rw [h1, h2]
  exact ext _ _ hX hY
end
end Plain
