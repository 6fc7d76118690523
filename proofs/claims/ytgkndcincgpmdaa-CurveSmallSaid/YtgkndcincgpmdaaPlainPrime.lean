/-
  Primes: Fermat, Pocklington; P and the order of the base point are prime.
-/
import Derived.Test.YtgkndcincgpmdaaPlainInv
namespace Plain
/-! ### Primes -/
def PrimeN (p : Nat) : Prop := 2 ≤ p ∧ ∀ m, m ∣ p → m = 1 ∨ m = p
theorem PrimeN.coprime {p a : Nat} (hp : PrimeN p) (h : ¬ p ∣ a) : Nat.Coprime p a := by
  rcases hp.2 (Nat.gcd p a) (Nat.gcd_dvd_left p a) with h1 | h1
  · exact h1
  · exact absurd (h1 ▸ Nat.gcd_dvd_right p a) h
theorem PrimeN.euclid {p a b : Nat} (hp : PrimeN p) (h : p ∣ a * b) : p ∣ a ∨ p ∣ b := by
  by_cases ha : p ∣ a
  · exact .inl ha
  · exact .inr ((hp.coprime ha).dvd_of_dvd_mul_left h)
/-- A prime that parts a number greater than 1. -/
theorem exists_prime (n : Nat) (hn : 2 ≤ n) : ∃ r, PrimeN r ∧ r ∣ n := by
  induction n using Nat.strongRecOn with
  | _ n ih =>
    by_cases h : PrimeN n
    · exact ⟨n, h, Nat.dvd_refl n⟩
    · have : ∃ m, m ∣ n ∧ m ≠ 1 ∧ m ≠ n := by
        by_cases hh : ∃ m, m ∣ n ∧ m ≠ 1 ∧ m ≠ n
        · exact hh
        · refine absurd ⟨hn, fun m hm => ?_⟩ h
          by_cases h1 : m = 1
          · exact .inl h1
          · by_cases h2 : m = n
            · exact .inr h2
            · exact absurd ⟨m, hm, h1, h2⟩ hh
      obtain ⟨m, hm, h1, h2⟩ := this
      have hle := Nat.le_of_dvd (by omega) hm
      have h0 : m ≠ 0 := by
        rintro rfl
        obtain ⟨c, hc⟩ := hm
        omega
      obtain ⟨r, hr, hrm⟩ := ih m (by omega) (by omega)
      exact ⟨r, hr, Nat.dvd_trans hrm hm⟩
/-- A number none of whose prime parts has a square that is not greater is prime. -/
theorem prime_of_large {n : Nat} (hn : 2 ≤ n) (h : ∀ r, PrimeN r → r ∣ n → n < r * r) : PrimeN n := by
  refine ⟨hn, fun m hm => ?_⟩
  by_cases h1 : m = 1
  · exact .inl h1
  by_cases h2 : m = n
  · exact .inr h2
  exfalso
  obtain ⟨c, hc⟩ := hm
  have m0 : m ≠ 0 := by rintro rfl; simp at hc; omega
  have c0 : c ≠ 0 := by rintro rfl; simp at hc; omega
  have c1 : c ≠ 1 := by rintro rfl; simp at hc; omega
  obtain ⟨r, hr, hrm⟩ := exists_prime m (by omega)
  obtain ⟨s, hs, hsc⟩ := exists_prime c (by omega)
  have b1 := h r hr (hc ▸ Nat.dvd_mul_right_of_dvd hrm c)
  have b2 := h s hs (hc ▸ Nat.dvd_mul_left_of_dvd hsc m)
  have l1 := Nat.le_of_dvd (by omega) hrm
  have l2 := Nat.le_of_dvd (by omega) hsc
  have l3 : r * s ≤ n := hc ▸ Nat.mul_le_mul l1 l2
  rcases Nat.le_total r s with h3 | h3
  · have := Nat.mul_le_mul_left r h3
    omega
  · have := Nat.mul_le_mul_right s h3
    omega
/-! ### Fermat -/
theorem perm_of_nodup : ∀ (l1 l2 : List Nat), l1.Nodup → (∀ x ∈ l1, x ∈ l2) → l2.length ≤ l1.length → l1.Perm l2
  | [], l2, _, _, hl => by
    have : l2 = [] := List.eq_nil_of_length_eq_zero (by simpa using hl)
    subst this; exact List.Perm.nil
  | x :: t, l2, hn, hs, hl => by
    have hx : x ∈ l2 := hs x (.head _)
    have ht : ∀ y ∈ t, y ∈ l2.erase x := by
      intro y hy
      have hne : y ≠ x := by
        rintro rfl
        exact (List.nodup_cons.1 hn).1 hy
      exact (List.mem_erase_of_ne hne).2 (hs y (.tail _ hy))
    have h1 := perm_of_nodup t (l2.erase x) (List.nodup_cons.1 hn).2 ht (by rw [List.length_erase_of_mem hx]; simp at hl; omega)
    exact (h1.cons x).trans (List.perm_cons_erase hx).symm
theorem nodup_map {f : Nat → Nat} : ∀ (l : List Nat), l.Nodup → (∀ x ∈ l, ∀ y ∈ l, f x = f y → x = y) → (l.map f).Nodup
  | [], _, _ => List.nodup_nil
  | x :: t, hn, hf => by
    obtain ⟨h1, h2⟩ := List.nodup_cons.1 hn
    rw [List.map_cons, List.nodup_cons]
    refine ⟨fun hm => ?_, nodup_map t h2 fun a ha b hb => hf a (.tail _ ha) b (.tail _ hb)⟩
    obtain ⟨y, hy, he⟩ := List.mem_map.1 hm
    exact h1 (hf y (.tail _ hy) x (.head _) he ▸ hy)
theorem prod_mod (p a : Nat) : ∀ l : List Nat, (l.map (fun x => a * x % p)).prod % p = a ^ l.length * l.prod % p
  | [] => rfl
  | x :: t => by
    rw [List.map_cons, List.prod_cons, Nat.mul_mod, prod_mod p a t, List.prod_cons, List.length_cons, Nat.mod_mod, ← Nat.mul_mod, Nat.pow_succ]
    congr 1
    grind
theorem coprime_prod {p : Nat} : ∀ l : List Nat, (∀ x ∈ l, Nat.Coprime p x) → Nat.Coprime p l.prod
  | [], _ => Nat.coprime_one_right p
  | x :: t, h => by
    rw [List.prod_cons]
    exact Nat.Coprime.mul_right (h x (.head _)) (coprime_prod t fun y hy => h y (.tail _ hy))
theorem cancel_mod {p a b c : Nat} (hc : Nat.Coprime p c) (h : a * c % p = b * c % p) : a % p = b % p := by
  rcases Nat.le_total a b with hab | hab
  · have h1 : p ∣ (b - a) * c := by
      rw [Nat.sub_mul]
      exact Nat.dvd_of_mod_eq_zero (Nat.sub_mod_eq_zero_of_mod_eq h.symm)
    obtain ⟨k, hk⟩ := hc.dvd_of_dvd_mul_right h1
    have : b = a + p * k := by omega
    rw [this, Nat.add_mul_mod_self_left]
  · have h1 : p ∣ (a - b) * c := by
      rw [Nat.sub_mul]
      exact Nat.dvd_of_mod_eq_zero (Nat.sub_mod_eq_zero_of_mod_eq h)
    obtain ⟨k, hk⟩ := hc.dvd_of_dvd_mul_right h1
    have : a = b + p * k := by omega
    rw [this, Nat.add_mul_mod_self_left]
theorem fermat {p a : Nat} (hp : PrimeN p) (ha : ¬ p ∣ a) : a ^ (p - 1) % p = 1 := by
  have h2 := hp.1
  have hL : ∀ x ∈ List.range' 1 (p - 1), 1 ≤ x ∧ x < p := by
    intro x hx
    have := List.mem_range'_1.1 hx
    omega
  have hnd : ∀ x ∈ List.range' 1 (p - 1), ¬ p ∣ x := by
    intro x hx hd
    have := hL x hx
    have := Nat.le_of_dvd (by omega) hd
    omega
  have hperm : ((List.range' 1 (p - 1)).map (fun x => a * x % p)).Perm (List.range' 1 (p - 1)) := by
    refine perm_of_nodup _ _ (nodup_map _ List.nodup_range' ?_) ?_ (by rw [List.length_map]; exact Nat.le_refl _)
    · intro x hx y hy he
      have h1 := hL x hx
      have h3 := hL y hy
      rw [Nat.mul_comm a x, Nat.mul_comm a y] at he
      have := cancel_mod (hp.coprime ha) he
      rw [Nat.mod_eq_of_lt h1.2, Nat.mod_eq_of_lt h3.2] at this
      exact this
    · intro y hy
      obtain ⟨x, hx, rfl⟩ := List.mem_map.1 hy
      have h1 : a * x % p ≠ 0 := fun h => by
        rcases hp.euclid (Nat.dvd_of_mod_eq_zero h) with h | h
        · exact ha h
        · exact hnd x hx h
      have h3 := Nat.mod_lt (a * x) (show 0 < p by omega)
      exact List.mem_range'_1.2 (by omega)
  have h1 := prod_mod p a (List.range' 1 (p - 1))
  rw [hperm.prod_nat, List.length_range'] at h1
  have h3 : a ^ (p - 1) * (List.range' 1 (p - 1)).prod % p = 1 * (List.range' 1 (p - 1)).prod % p := by rw [Nat.one_mul]; exact h1.symm
  have h4 := cancel_mod (coprime_prod _ fun x hx => hp.coprime (hnd x hx)) h3
  rw [Nat.mod_eq_of_lt (show 1 < p by omega)] at h4
  exact h4
/-! ### Pocklington -/
theorem pow_mod_one {p a k : Nat} (h2 : 2 ≤ p) (h : a % p = 1) : a ^ k % p = 1 := by
  rw [Nat.pow_mod, h, Nat.one_pow, Nat.mod_eq_of_lt (by omega)]
/-- If powers of one number to q and to m are 1, and q and m have no common part, then it is 1. -/
theorem pow_coprime {r b : Nat} (hr : 2 ≤ r) : ∀ (q m : Nat), Nat.Coprime q m → b ^ q % r = 1 → b ^ m % r = 1 → b % r = 1 := by
  intro q
  induction q using Nat.strongRecOn with
  | _ q ih =>
    intro m hc h1 h2
    by_cases h0 : q = 0
    · subst h0
      have : m = 1 := by simpa [Nat.Coprime] using hc
      rw [this, Nat.pow_one] at h2
      exact h2
    · have hlt := Nat.mod_lt m (show 0 < q by omega)
      refine ih (m % q) hlt q ?_ ?_ h1
      · unfold Nat.Coprime at hc ⊢
        rw [← Nat.gcd_rec]; exact hc
      · have e : b ^ m = (b ^ q) ^ (m / q) * b ^ (m % q) := by
          rw [← Nat.pow_mul, ← Nat.pow_add, Nat.div_add_mod]
        rw [e, Nat.mul_mod, pow_mod_one hr h1, Nat.one_mul, Nat.mod_mod] at h2
        exact h2
/-- q parts one less than any prime that parts n. -/
theorem pock_dvd {n q a r : Nat} (hq : PrimeN q) (hqn : q ∣ n - 1) (h1 : a ^ (n - 1) % n = 1) (hg : Nat.gcd (a ^ ((n - 1) / q) % n + (n - 1)) n = 1) (hr : PrimeN r) (hrn : r ∣ n) (hn : 2 ≤ n) : q ∣ r - 1 := by
  have hr2 := hr.1
  by_cases h : q ∣ r - 1
  · exact h
  exfalso
  have hred : ∀ x : Nat, x % n % r = x % r := fun x => Nat.mod_mod_of_dvd x hrn
  have hb : (a ^ ((n - 1) / q)) ^ q % r = 1 := by
    rw [← Nat.pow_mul, Nat.div_mul_cancel hqn, ← hred, h1, Nat.mod_eq_of_lt (by omega)]
  have hnr : ¬ r ∣ a ^ ((n - 1) / q) := by
    intro hd
    have hd2 := Nat.dvd_trans hd (Nat.dvd_refl _)
    have hq2 := hq.1
    have : (a ^ ((n - 1) / q)) ^ q % r = 0 := by
      rw [Nat.pow_mod, Nat.mod_eq_zero_of_dvd hd, Nat.zero_pow (by omega), Nat.zero_mod]
    omega
  have hf := fermat hr hnr
  have hone := pow_coprime hr2 q (r - 1) (hq.coprime h) hb hf
  have hd : r ∣ a ^ ((n - 1) / q) % n + (n - 1) := by
    apply Nat.dvd_of_mod_eq_zero
    obtain ⟨c, hc⟩ := hrn
    rw [Nat.add_mod, hred, hone]
    have c0 : c ≠ 0 := by rintro rfl; simp at hc; omega
    have e : n - 1 = r * (c - 1) + (r - 1) := by
      have : c = (c - 1) + 1 := by omega
      rw [this, Nat.mul_add] at hc
      omega
    rw [e, Nat.mul_add_mod, Nat.mod_eq_of_lt (show r - 1 < r by omega), show 1 + (r - 1) = r by omega, Nat.mod_self]
  have := Nat.dvd_gcd hd hrn
  rw [hg] at this
  have := Nat.le_of_dvd (by decide) this
  omega
/-- One prime that is great enough. -/
theorem pock {n q a : Nat} (hq : PrimeN q) (hqn : q ∣ n - 1) (hn : 2 ≤ n) (hlt : n < (q + 1) * (q + 1)) (h1 : a ^ (n - 1) % n = 1) (hg : Nat.gcd (a ^ ((n - 1) / q) % n + (n - 1)) n = 1) : PrimeN n := by
  refine prime_of_large hn fun r hr hrn => ?_
  have h := pock_dvd hq hqn h1 hg hr hrn hn
  have hr2 := hr.1
  have hle := Nat.le_of_dvd (by omega) h
  exact Nat.lt_of_lt_of_le hlt (Nat.mul_le_mul (show q + 1 ≤ r by omega) (show q + 1 ≤ r by omega))
/-- Two primes. -/
theorem pock2 {n q s a b : Nat} (hq : PrimeN q) (hs : PrimeN s) (hqs : q ≠ s) (hqn : q ∣ n - 1) (hsn : s ∣ n - 1) (hn : 2 ≤ n) (hlt : n < (q * s + 1) * (q * s + 1)) (h1 : a ^ (n - 1) % n = 1) (hg : Nat.gcd (a ^ ((n - 1) / q) % n + (n - 1)) n = 1)
    (h2 : b ^ (n - 1) % n = 1) (hg2 : Nat.gcd (b ^ ((n - 1) / s) % n + (n - 1)) n = 1) : PrimeN n := by
  refine prime_of_large hn fun r hr hrn => ?_
  have d1 := pock_dvd hq hqn h1 hg hr hrn hn
  have d2 := pock_dvd hs hsn h2 hg2 hr hrn hn
  have hq2 := hq.1
  have hc : Nat.Coprime q s := hq.coprime fun h => by
    rcases hs.2 q h with h | h
    · omega
    · exact hqs h
  have d := hc.mul_dvd_of_dvd_of_dvd d1 d2
  have hr2 := hr.1
  have hle := Nat.le_of_dvd (by omega) d
  exact Nat.lt_of_lt_of_le hlt (Nat.mul_le_mul (show q * s + 1 ≤ r by omega) (show q * s + 1 ≤ r by omega))
end Plain
namespace Plain
/-- A power modulo n, by squares. -/
def pm (n : Nat) : Nat → Nat → Nat → Nat
  | 0, _, _ => 1 % n
  | k + 1, a, e => if e % 2 = 1 then a * pm n k (a * a % n) (e / 2) % n else pm n k (a * a % n) (e / 2)
theorem pm_eq (n : Nat) : ∀ (k a e : Nat), e < 2 ^ k → pm n k a e = a ^ e % n
  | 0, a, e, h => by
    have : e = 0 := by simpa using h
    subst this; rfl
  | k + 1, a, e, h => by
    have ih := pm_eq n k (a * a % n) (e / 2) (by rw [Nat.pow_succ] at h; omega)
    have e1 : (a * a % n) ^ (e / 2) % n = a ^ (2 * (e / 2)) % n := by rw [← Nat.pow_mod, ← Nat.pow_two, ← Nat.pow_mul]
    rw [pm, ih, e1]
    split
    · rename_i ho
      rw [Nat.mul_mod, Nat.mod_mod, ← Nat.mul_mod, ← Nat.pow_succ']
      congr 2
      omega
    · congr 2
      omega
theorem pm_pow {n k a e v : Nat} (h : e < 2 ^ k) (hv : pm n k a e = v) : a ^ e % n = v := by rw [← pm_eq n k a e h, hv]
theorem prime_small {n k : Nat} (hn : 2 ≤ n) (hk : n < (k + 1) * (k + 1)) (h : (List.range' 2 k).all (fun d => n % d != 0) = true) : PrimeN n := by
  refine prime_of_large hn fun r hr hrn => ?_
  rcases Nat.lt_or_ge k r with hlt | hge
  · exact Nat.lt_of_lt_of_le hk (Nat.mul_le_mul hlt hlt)
  · exfalso
    have h1 := List.all_eq_true.1 h r (List.mem_range'_1.2 ⟨hr.1, by omega⟩)
    rw [Nat.mod_eq_zero_of_dvd hrn] at h1
    simp at h1
theorem pockM {n q a k v : Nat} (hq : PrimeN q) (hqn : q ∣ n - 1) (hn : 2 ≤ n) (hlt : n < (q + 1) * (q + 1)) (hk : n - 1 < 2 ^ k) (h1 : pm n k a (n - 1) = 1) (hv : pm n k a ((n - 1) / q) = v) (hg : Nat.gcd (v + (n - 1)) n = 1) : PrimeN n :=
  pock hq hqn hn hlt (pm_pow hk h1) (by rw [pm_pow (Nat.lt_of_le_of_lt (Nat.div_le_self _ _) hk) hv]; exact hg)
theorem pock2M {n q s a b k u v : Nat} (hq : PrimeN q) (hs : PrimeN s) (hqs : q ≠ s) (hqn : q ∣ n - 1) (hsn : s ∣ n - 1) (hn : 2 ≤ n) (hlt : n < (q * s + 1) * (q * s + 1)) (hk : n - 1 < 2 ^ k) (h1 : pm n k a (n - 1) = 1) (hu : pm n k a ((n - 1) / q) = u) (hg : Nat.gcd (u + (n - 1)) n = 1)
    (h2 : pm n k b (n - 1) = 1) (hv : pm n k b ((n - 1) / s) = v) (hg2 : Nat.gcd (v + (n - 1)) n = 1) : PrimeN n :=
  pock2 hq hs hqs hqn hsn hn hlt (pm_pow hk h1) (by rw [pm_pow (Nat.lt_of_le_of_lt (Nat.div_le_self _ _) hk) hu]; exact hg) (pm_pow hk h2) (by rw [pm_pow (Nat.lt_of_le_of_lt (Nat.div_le_self _ _) hk) hv]; exact hg2)
/-- The order of the base point. -/
def FL : Nat := 7237005577332262213973186563042994240857116359379907606001950938285454250989
theorem prime_1923133 : PrimeN 1923133 := prime_small (k := 1386) (by decide) (by decide) (by decide +kernel)
theorem prime_8574133 : PrimeN 8574133 := prime_small (k := 2928) (by decide) (by decide) (by decide +kernel)
theorem prime_127 : PrimeN 127 := prime_small (k := 11) (by decide) (by decide) (by decide +kernel)
theorem prime_75707 : PrimeN 75707 := prime_small (k := 275) (by decide) (by decide) (by decide +kernel)
theorem prime_1224481 : PrimeN 1224481 := prime_small (k := 1106) (by decide) (by decide) (by decide +kernel)
theorem prime_531581 : PrimeN 531581 := prime_small (k := 729) (by decide) (by decide) (by decide +kernel)
theorem prime_1919519569386763 : PrimeN 1919519569386763 := pock2M (q := 8574133) (s := 127) (a := 2) (b := 2) (k := 52) (u := 1059928654987441) (v := 576774792492622) prime_8574133 prime_127 (by decide) (by decide +kernel) (by decide +kernel) (by decide +kernel) (by decide +kernel) (by decide +kernel) (by decide +kernel) (by decide +kernel) (by decide +kernel) (by decide +kernel) (by decide +kernel) (by decide +kernel)
theorem prime_75445702479781427272750846543864801 : PrimeN 75445702479781427272750846543864801 := pock2M (q := 1919519569386763) (s := 75707) (a := 2) (b := 2) (k := 117) (u := 56747016255153332959347766392083459) (v := 58781699294900834553279248901967638) prime_1919519569386763 prime_75707 (by decide) (by decide +kernel) (by decide +kernel) (by decide +kernel) (by decide +kernel) (by decide +kernel) (by decide +kernel) (by decide +kernel) (by decide +kernel) (by decide +kernel) (by decide +kernel) (by decide +kernel)
theorem prime_74058212732561358302231226437062788676166966415465897661863160754340907 : PrimeN 74058212732561358302231226437062788676166966415465897661863160754340907 := pock2M (q := 75445702479781427272750846543864801) (s := 1923133) (a := 2) (b := 2) (k := 237) (u := 69490809710348678725736597923071784769591275419387514694139338586948360) (v := 52266576830164329332527201090776533817489900267135412990654516667243924) prime_75445702479781427272750846543864801 prime_1923133 (by decide) (by decide +kernel) (by decide +kernel) (by decide +kernel) (by decide +kernel) (by decide +kernel) (by decide +kernel) (by decide +kernel) (by decide +kernel) (by decide +kernel) (by decide +kernel) (by decide +kernel)
theorem prime_FP : PrimeN FP := pockM (q := 74058212732561358302231226437062788676166966415465897661863160754340907) (a := 2) (k := 256) (v := 427094198651976259540344842774561673889945192655078505504941250475370961481) prime_74058212732561358302231226437062788676166966415465897661863160754340907 (by decide +kernel) (by decide +kernel) (by decide +kernel) (by decide +kernel) (by decide +kernel) (by decide +kernel) (by decide +kernel)
theorem prime_1257559732178653 : PrimeN 1257559732178653 := pock2M (q := 1224481) (s := 531581) (a := 2) (b := 2) (k := 52) (u := 1252739704402215) (v := 1139842034583224) prime_1224481 prime_531581 (by decide) (by decide +kernel) (by decide +kernel) (by decide +kernel) (by decide +kernel) (by decide +kernel) (by decide +kernel) (by decide +kernel) (by decide +kernel) (by decide +kernel) (by decide +kernel) (by decide +kernel)
theorem prime_4434155615661930479 : PrimeN 4434155615661930479 := pockM (q := 1257559732178653) (a := 2) (k := 63) (v := 415787812636281767) prime_1257559732178653 (by decide +kernel) (by decide +kernel) (by decide +kernel) (by decide +kernel) (by decide +kernel) (by decide +kernel) (by decide +kernel)
theorem prime_172054593956031949258510691 : PrimeN 172054593956031949258510691 := pockM (q := 4434155615661930479) (a := 2) (k := 89) (v := 81982237619807054769897707) prime_4434155615661930479 (by decide +kernel) (by decide +kernel) (by decide +kernel) (by decide +kernel) (by decide +kernel) (by decide +kernel) (by decide +kernel)
theorem prime_19757330305831588566944191468367130476339 : PrimeN 19757330305831588566944191468367130476339 := pockM (q := 172054593956031949258510691) (a := 2) (k := 135) (v := 9148758478138211201771971577098600188172) prime_172054593956031949258510691 (by decide +kernel) (by decide +kernel) (by decide +kernel) (by decide +kernel) (by decide +kernel) (by decide +kernel) (by decide +kernel)
theorem prime_276602624281642239937218680557139826668747 : PrimeN 276602624281642239937218680557139826668747 := pockM (q := 19757330305831588566944191468367130476339) (a := 2) (k := 139) (v := 16384) prime_19757330305831588566944191468367130476339 (by decide +kernel) (by decide +kernel) (by decide +kernel) (by decide +kernel) (by decide +kernel) (by decide +kernel) (by decide +kernel)
theorem prime_FL : PrimeN FL := pockM (q := 276602624281642239937218680557139826668747) (a := 2) (k := 254) (v := 2975531125133123119648879457563281269120703404158613135195788908093573672641) prime_276602624281642239937218680557139826668747 (by decide +kernel) (by decide +kernel) (by decide +kernel) (by decide +kernel) (by decide +kernel) (by decide +kernel) (by decide +kernel)
end Plain
