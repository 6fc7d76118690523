/-
  Roots; every number is the u of a point of one of two curves; multiples may come in any order.
-/
import Derived.Test.YtgkndcincgpmdaaPlainKum
namespace Plain
open Go Go.Sym
section
variable {n : Nat} [NeZero n] {d : Fin n}
/-! ### Powers -/
def pw (a : Fin n) (k : Nat) : Fin n := Fin.ofNat n (a.val ^ k)
theorem pw_add (a : Fin n) (j k : Nat) : pw a (j + k) = pw a j * pw a k := by
  apply Fin.ext
  rw [Fin.val_mul]
  show a.val ^ (j + k) % n = (a.val ^ j % n) * (a.val ^ k % n) % n
  rw [← Nat.mul_mod, Nat.pow_add]
theorem pw_mul (a b : Fin n) (k : Nat) : pw (a * b) k = pw a k * pw b k := by
  apply Fin.ext
  rw [Fin.val_mul]
  show (a * b).val ^ k % n = (a.val ^ k % n) * (b.val ^ k % n) % n
  rw [← Nat.mul_mod, Fin.val_mul, ← Nat.pow_mod, Nat.mul_pow]
theorem pw_val (a : Fin n) (k : Nat) : (pw a k).val = a.val ^ k % n := rfl
theorem pw_one (a : Fin n) : pw a 1 = a := by
  apply Fin.ext
  show a.val ^ 1 % n = a.val
  rw [Nat.pow_one, Nat.mod_eq_of_lt a.isLt]
theorem pw_fermat (hp : PrimeN n) {a : Fin n} (h : a ≠ 0) : pw a (n - 1) = 1 := by
  have h0 : ¬ n ∣ a.val := fun hd => by
    have h1 : a.val ≠ 0 := fun h1 => h (fin_eq_zero.2 h1)
    have := Nat.le_of_dvd (by omega) hd
    have := a.isLt
    omega
  apply Fin.ext
  show a.val ^ (n - 1) % n = 1 % n
  rw [fermat hp h0, Nat.mod_eq_of_lt hp.1]
/-- A number whose power to half of n less one is -1 has no root. -/
theorem no_root (hp : PrimeN n) (h2 : (2 : Fin n) ≠ 0) {a : Fin n} (e : Nat) (he : n - 1 = e + e) (h : pw a e = -1) (s : Fin n) : s * s ≠ a := fun hs => by
  have hs0 : s ≠ 0 := fun h0 => by
    rw [h0] at hs
    have ha : a = 0 := by rw [← hs]; clear hs h; grobner
    have : pw a e = 0 := by
      rw [ha]
      apply Fin.ext
      show 0 ^ e % n = 0
      have := hp.1
      rw [Nat.zero_pow (by omega), Nat.zero_mod]
    rw [this] at h
    exact one_ne hp (by grobner)
  have hf := pw_fermat hp hs0
  rw [he, pw_add, ← pw_mul, hs, h] at hf
  have e1 : (2 : Fin n) = 1 - -1 := by clear hs he hf h; grobner
  exact h2 (by rw [e1, hf]; clear hs he hf h e1; grobner)
/-- n is 5 modulo 8: a number whose power to half of n less one is 1 has a root. -/
theorem has_root (hp : PrimeN n) (m : Nat) (i : Fin n) (hi : i * i = -1) {w : Fin n} (hw : pw w (2 * m + 1 + (2 * m + 1)) = 1) : ∃ s, s * s = w := by
  obtain ⟨q, hq⟩ : ∃ q, q = pw w (2 * m + 1) := ⟨_, rfl⟩
  obtain ⟨r, hr⟩ : ∃ r, r = pw w (m + 1) := ⟨_, rfl⟩
  have h1 : r * r = w * q := by
    rw [hr, hq, ← pw_add, show m + 1 + (m + 1) = 1 + (2 * m + 1) by omega, pw_add, pw_one]
  have h2 : q * q = 1 := by rw [hq, ← pw_add]; exact hw
  clear hq hr hw
  have h3 : (q - 1) * (q + 1) = 0 := by clear h1; grobner
  rcases mul_zero' hp h3 with h | h
  · exact ⟨r, by clear h2 h3 hi; grobner⟩
  · exact ⟨i * r, by clear h2 h3; grobner⟩
theorem sq_or (hp : PrimeN n) (m : Nat) (hm : n - 1 = 2 * m + 1 + (2 * m + 1) + (2 * m + 1 + (2 * m + 1))) (i : Fin n) (hi : i * i = -1) {b : Fin n} (hb : pw b (2 * m + 1 + (2 * m + 1)) = -1) {w : Fin n} (hw : w ≠ 0) : (∃ s, s * s = w) ∨ ∃ s, s * s = b * w := by
  have hf := pw_fermat hp hw
  rw [hm, pw_add] at hf
  obtain ⟨q, hq⟩ : ∃ q, q = pw w (2 * m + 1 + (2 * m + 1)) := ⟨_, rfl⟩
  rw [← hq] at hf
  have h3 : (q - 1) * (q + 1) = 0 := by clear hi hb hm hq; grobner
  rcases mul_zero' hp h3 with h | h
  · left
    refine has_root hp m i hi ?_
    rw [← hq]
    clear hi hb hm hq h3 hf
    grobner
  · right
    refine has_root hp m i hi ?_
    rw [pw_mul, hb, ← hq]
    clear hi hb hm hq h3 hf
    grobner
/-! ### Every number is the u of a point -/
theorem Good.cover (g : Good d) {A u s v : Fin n} (hv0 : v = u * u + A * u + 1) (hv : v ≠ 0) (hA : d * (A + 2) = A - 2) (hA0 : A + 2 ≠ 0) (hs : s * s * v = (A + 2) * u) (hu : u + 1 ≠ 0) :
    ∃ P : EP n, onE d P ∧ uE P = u ∧ P.y * (u + 1) = u - 1 := by
  have h1 := mul_iv g.prime hu
  obtain ⟨y, hy⟩ : ∃ y, y = (u - 1) * iv (u + 1) := ⟨_, rfl⟩
  have hy1 : y * (u + 1) = u - 1 := by
    rw [hy]
    clear hs hA hv0
    generalize iv (u + 1) = e at *
    clear hy
    grobner
  have hy2 : (1 - y) * (u + 1) = 2 := by clear hs hA hv0 h1; grobner
  have hy3 : 1 - y ≠ 0 := fun h => g.two (by rw [h] at hy2; clear hs hA hv0 h1 hy1 h; grobner)
  refine ⟨⟨s, y⟩, ?_, ?_, hy1⟩
  · show s * s + y * y = 1 + d * (s * s * (y * y))
    have hw := mul_ne g.prime hA0 (mul_ne g.prime hv (mul_ne g.prime hu hu))
    refine cancel_r g.prime hw ?_
    have e1 : (s * s + y * y) * ((A + 2) * (v * ((u + 1) * (u + 1)))) = (A + 2) * (s * s * v * ((u + 1) * (u + 1)) + v * (y * (u + 1) * (y * (u + 1)))) := by clear hs hA hv0 h1 hy1 hy2 hy; grobner
    have e2 : (1 + d * (s * s * (y * y))) * ((A + 2) * (v * ((u + 1) * (u + 1)))) = (A + 2) * (v * ((u + 1) * (u + 1))) + d * (A + 2) * (s * s * v) * (y * (u + 1) * (y * (u + 1))) := by clear hs hA hv0 h1 hy1 hy2 hy; grobner
    rw [e1, e2, hs, hy1, hA, hv0]
    clear hs hA hv0 h1 hy1 hy2 hy
    grobner
  · have h4 := mul_iv g.prime hy3
    show (1 + y) * iv (1 - y) = u
    have h5 : 1 + y = u * (1 - y) := by clear hs hA hv0 h1 hy2; grobner
    rw [h5]
    generalize iv (1 - y) = e at *
    clear hs hA hv0 h1 hy1 hy2 hy h5
    grobner
end
/-! ### The curve and the other one -/
def d1 : Fin FP := Fin.ofNat FP 20800338683988658368647408995589388737092878452977063003340006470870624536394
def d2 : Fin FP := Fin.ofNat FP 28692721048178265397853269683490922171210976843790175684556505508326675974058
def rI : Fin FP := Fin.ofNat FP 19681161376707505956807079304988542015446066515923890162744021073123829784752
def FE2 : Nat := 28948022309329048855892746252171976963317496166410141009864396001978282409974
def FM : Nat := 7237005577332262213973186563042994240829374041602535252466099000494570602493
theorem two_ne : (2 : Fin FP) ≠ 0 := by decide +kernel
theorem pw_d1 : pw d1 FE2 = -1 := by
  apply Fin.ext
  rw [pw_val, pm_pow (k := 256) (by decide +kernel) (show pm FP 256 d1.val FE2 = FP - 1 by decide +kernel)]
  decide +kernel
theorem pw_d2 : pw d2 FE2 = -1 := by
  apply Fin.ext
  rw [pw_val, pm_pow (k := 256) (by decide +kernel) (show pm FP 256 d2.val FE2 = FP - 1 by decide +kernel)]
  decide +kernel
theorem good1 : Good d1 := ⟨prime_FP, two_ne, no_root prime_FP two_ne FE2 (by decide +kernel) pw_d1⟩
theorem good2 : Good d2 := ⟨prime_FP, two_ne, no_root prime_FP two_ne FE2 (by decide +kernel) pw_d2⟩
theorem c0_eq : c0 = d1 * (c0 + 1) := by decide +kernel
theorem c1_eq : -1 - c0 = d2 * (-1 - c0 + 1) := by decide +kernel
def cA : Fin FP := Fin.ofNat FP 486662
theorem hA1 : d1 * (cA + 2) = cA - 2 := by decide +kernel
theorem hA2 : d2 * (-cA + 2) = -cA - 2 := by decide +kernel
theorem hA3 : cA + 2 ≠ 0 := by decide +kernel
theorem hA4 : -cA + 2 ≠ 0 := by decide +kernel
theorem hd12 : d1 * d2 = 1 := by decide +kernel
theorem rI_sq : rI * rI = -1 := by decide +kernel
theorem root_or {w : Fin FP} (hw : w ≠ 0) : (∃ s, s * s = w) ∨ ∃ s, s * s = d1 * w :=
  sq_or prime_FP FM (by decide +kernel) rI rI_sq (by rw [show 2 * FM + 1 + (2 * FM + 1) = FE2 by decide +kernel]; exact pw_d1) hw
theorem v_ne (u : Fin FP) : u * u + cA * u + 1 ≠ 0 := fun h => by
  refine good1.nsq (a := 2 * u + cA) hA3 ?_
  have e := hA1
  generalize cA = A at *
  generalize d1 = d at *
  grobner
theorem cover_all (u : Fin FP) : (∃ P, onE d1 P ∧ uE P = u) ∨ ∃ P, onE d2 P ∧ uE P = -u := by
  by_cases h0 : u = 0
  · exact .inl ⟨zeroE, on_zero, by rw [uE_zero good1, h0]⟩
  obtain ⟨v, hv⟩ : ∃ v, v = u * u + cA * u + 1 := ⟨_, rfl⟩
  have hv0 : v ≠ 0 := hv ▸ v_ne u
  have hi := mul_iv prime_FP hv0
  obtain ⟨e, he⟩ : ∃ e, e = iv v := ⟨_, rfl⟩
  rw [← he] at hi
  clear he
  have he0 : e ≠ 0 := fun h => one_ne prime_FP (by rw [h] at hi; clear hv; grobner)
  have hw := mul_ne prime_FP (mul_ne prime_FP hA3 h0) he0
  have a1 := hA1
  have a2 := hA2
  have a3 := hA3
  have a4 := hA4
  have a5 := hd12
  have g1 := good1
  have g2 := good2
  have hr := root_or hw
  generalize cA = A at *
  generalize d1 = d at *
  generalize d2 = f at *
  rcases hr with ⟨s, hs⟩ | ⟨s, hs⟩
  · left
    have hs2 : s * s * v = (A + 2) * u := by rw [hs]; clear hv a1 a2 a5 hs; grobner
    have hu : u + 1 ≠ 0 := fun h => by
      have hu2 : u = -1 := by clear hv a1 a2 a5 hs hs2 hi; grobner
      have h3 : v = 2 - A := by rw [hv, hu2]; clear hv a1 a2 a5 hs hs2 hi h hu2; grobner
      have hs0 : s ≠ 0 := fun h => by
        rw [h, hu2] at hs2
        exact a3 (by clear hv a1 a2 a5 hs hi h3; grobner)
      have h4 : (A + 2) * (1 * 1) = (A + 2) * (d * (s * s)) := by
        rw [h3, hu2] at hs2
        clear hv a2 a5 hs hi h3 hu2 h
        grobner
      exact g1.nsq hs0 (cancel_r prime_FP a3 (by rw [Fin.mul_comm (1 * 1), h4, Fin.mul_comm]))
    obtain ⟨P, hP, hPu, _⟩ := g1.cover hv hv0 a1 a3 hs2 hu
    exact ⟨P, hP, hPu⟩
  · right
    have hs1 : s * s * v = (A - 2) * u := by rw [hs]; clear hv a2 a5 hs; grobner
    have hs2 : s * s * v = (-A + 2) * -u := by rw [hs1]; clear hv a1 a2 a5 hs hs1; grobner
    have hv2 : v = -u * -u + -A * -u + 1 := by rw [hv]; clear hv a1 a2 a5 hs hs1 hs2; grobner
    have hu : -u + 1 ≠ 0 := fun h => by
      have hu2 : u = 1 := by clear hv a1 a2 a5 hs hs1 hs2 hi hv2; grobner
      have h3 : v = A + 2 := by rw [hv, hu2]; clear hv a1 a2 a5 hs hs2 hi h hu2 hv2 hs1; grobner
      have h4 : s * s * (A + 2) = d * (A + 2) := by rw [a1, ← h3, hs1, hu2]; clear hv a1 a2 a5 hs hs2 hi h hu2 hv2 hs1; grobner
      exact g1.ns s (cancel_r prime_FP a3 h4)
    obtain ⟨P, hP, hPu, _⟩ := g2.cover hv2 hv0 a2 a4 hs2 hu
    exact ⟨P, hP, hPu⟩
/-- Multiples may come in any order. -/
theorem mult_comm (a b : Nat → Bool) (ha : ∃ m, kN a 255 = 2 * m) (hb : ∃ m, kN b 255 = 2 * m) (u : Fin FP) : multF c0 a (multF c0 b u) = multF c0 b (multF c0 a u) := by
  rcases cover_all u with ⟨P, hP, rfl⟩ | ⟨P, hP, hu⟩
  · rw [good1.mult_u c0_eq hP b hb, good1.mult_u c0_eq hP a ha, good1.mult_u c0_eq (good1.on_mul hP _) a ha, good1.mult_u c0_eq (good1.on_mul hP _) b hb, good1.mul_comm hP]
  · have nn : ∀ x : Fin FP, - -x = x := fun x => by grobner
    have key : ∀ bits Q, onE d2 Q → (∃ m, kN bits 255 = 2 * m) → multF c0 bits (-uE Q) = - uE (mulE d2 (kN bits 255) Q) := by
      intro bits Q hQ hb
      have h := good2.mult_opp c0 (-uE Q) bits
      rw [nn, good2.mult_u c1_eq hQ bits hb] at h
      rw [h, nn]
    have hu2 : u = -uE P := by rw [hu, nn]
    rw [hu2, key b P hP hb, key a P hP ha, key a _ (good2.on_mul hP _) ha, key b _ (good2.on_mul hP _) hb, good2.mul_comm hP]
end Plain
