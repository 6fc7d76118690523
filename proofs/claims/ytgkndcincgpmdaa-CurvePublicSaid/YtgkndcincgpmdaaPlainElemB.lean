/-
  What rows of limbs are, as numbers modulo P.
-/
import Derived.Test.YtgkndcincgpmdaaPlainElem
namespace Plain
open Go Go.Sym
theorem all5 {p : BitVec 64 → Prop} {a b c d e : BitVec 64} : (∀ x ∈ [a, b, c, d, e], p x) ↔ p a ∧ p b ∧ p c ∧ p d ∧ p e := by
  simp only [List.mem_cons, List.not_mem_nil, or_false, forall_eq_or_imp, forall_eq]
theorem add_small (x y : BitVec 64) (h : x.toNat + y.toNat < 18446744073709551616) : (x + y).toNat = x.toNat + y.toNat := by
  rw [BitVec.toNat_add]; omega
theorem add_el {l m : List (BitVec 64)} {v u : Nat} (hl : El l v) (hm : El m u) : El (addL l m) ((v + u) % FP) := by
  obtain ⟨h1, h2, h3⟩ := hl
  obtain ⟨g1, g2, g3⟩ := hm
  have hn : num5 (addTo l m 5) = num5 l + num5 m ∧ (∀ x ∈ addTo l m 5, x.toNat < 9223372036854775808) := by
    obtain ⟨a, b, c, d, e, rfl⟩ := list5 l h1
    obtain ⟨f, g, h, i, j, rfl⟩ := list5 m g1
    rw [all5] at h2 g2
    have e1 : addTo [a, b, c, d, e] [f, g, h, i, j] 5 = [a + f, b + g, c + h, d + i, e + j] := rfl
    rw [e1, all5]
    simp only [num5]
    rw [add_small a f (by omega), add_small b g (by omega), add_small c h (by omega), add_small d i (by omega), add_small e j (by omega)]
    omega
  have h := carried_el (addTo l m 5) (by rw [addTo_len, h1]) hn.2
  rw [hn.1, Nat.add_mod, h3, g3] at h
  exact h
theorem sub_small (x y z : BitVec 64) (h : y.toNat ≤ z.toNat) (h2 : x.toNat + z.toNat < 18446744073709551616) : (x + (z - y)).toNat = x.toNat + (z.toNat - y.toNat) := by
  have e : (z - y).toNat = z.toNat - y.toNat := by
    rw [BitVec.toNat_sub]
    have := y.isLt; have := z.isLt
    omega
  rw [BitVec.toNat_add, e]; omega
theorem sub_el {l m : List (BitVec 64)} {v u : Nat} (hl : El l v) (hm : El m u) : El (subL l m) ((v + (FP - u)) % FP) := by
  have hu := hm.lt
  obtain ⟨h1, h2, h3⟩ := hl
  obtain ⟨g1, g2, g3⟩ := hm
  have hn : num5 (subTo l m 5) + num5 m = num5 l + 4 * FP ∧ (∀ x ∈ subTo l m 5, x.toNat < 9223372036854775808) := by
    obtain ⟨a, b, c, d, e, rfl⟩ := list5 l h1
    obtain ⟨f, g, h, i, j, rfl⟩ := list5 m g1
    rw [all5] at h2 g2
    have e1 : subTo [a, b, c, d, e] [f, g, h, i, j] 5 = [a + (9007199254740916#64 - f), b + (9007199254740988#64 - g), c + (9007199254740988#64 - h), d + (9007199254740988#64 - i), e + (9007199254740988#64 - j)] := rfl
    have z0 : (9007199254740916#64).toNat = 9007199254740916 := rfl
    have z1 : (9007199254740988#64).toNat = 9007199254740988 := rfl
    rw [e1, all5]
    simp only [num5, FP]
    rw [sub_small a f _ (by omega) (by omega), sub_small b g _ (by omega) (by omega), sub_small c h _ (by omega) (by omega), sub_small d i _ (by omega) (by omega), sub_small e j _ (by omega) (by omega), z0, z1]
    omega
  have h := carried_el (subTo l m 5) (by rw [subTo_len, h1]) hn.2
  have e : num5 (subTo l m 5) % FP = (v + (FP - u)) % FP := by
    have e1 := hn.1
    rw [← h3, ← g3]
    generalize num5 (subTo l m 5) = s at *
    generalize num5 l = a at *
    generalize num5 m = b at *
    simp only [FP] at *
    omega
  rw [e] at h
  exact h
theorem small_el (x : BitVec 32) : El (smallL x) x.toNat := by
  have := x.isLt
  refine ⟨rfl, ?_, ?_⟩
  · rw [smallL, all5, BitVec.toNat_setWidth]
    have e0 : (0#64).toNat = 0 := rfl
    rw [e0]
    omega
  · have e0 : (0#64).toNat = 0 := rfl
    rw [smallL]
    simp only [num5, e0, BitVec.toNat_setWidth, FP]
    omega
end Plain
