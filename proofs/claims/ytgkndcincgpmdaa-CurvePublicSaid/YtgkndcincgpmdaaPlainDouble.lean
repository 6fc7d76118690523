/-
  Numbers of 128 bits, as two words; their cells.
-/
import Derived.Test.YtgkndcincgpmdaaPlainField
namespace Plain
open Go Go.Sym
def hiD (d : BitVec 128) : BitVec 64 := (d >>> 64).setWidth 64
def loD (d : BitVec 128) : BitVec 64 := d.setWidth 64
def topD (d : BitVec 128) : BitVec 64 := (d >>> 51).setWidth 64
def prodD (x y : BitVec 64) : BitVec 128 := x.setWidth 128 * y.setWidth 128
theorem hiD_nat (d : BitVec 128) : (hiD d).toNat = d.toNat / 18446744073709551616 := by
  unfold hiD
  rw [BitVec.toNat_setWidth, BitVec.toNat_ushiftRight, Nat.shiftRight_eq_div_pow]
  have := d.isLt
  omega
theorem loD_nat (d : BitVec 128) : (loD d).toNat = d.toNat % 18446744073709551616 := by
  unfold loD
  rw [BitVec.toNat_setWidth]
theorem prodD_nat (x y : BitVec 64) : (prodD x y).toNat = x.toNat * y.toNat := by
  unfold prodD
  rw [BitVec.toNat_mul, BitVec.toNat_setWidth, BitVec.toNat_setWidth]
  have hx := x.isLt
  have hy := y.isLt
  rw [Nat.mod_eq_of_lt (show x.toNat < 2 ^ 128 by omega), Nat.mod_eq_of_lt (show y.toNat < 2 ^ 128 by omega)]
  have h : x.toNat * y.toNat ≤ 18446744073709551615 * 18446744073709551615 := Nat.mul_le_mul (by omega) (by omega)
  exact Nat.mod_eq_of_lt (by omega)
theorem hiD_and (d : BitVec 128) (x y : BitVec 64) : hiD (d + prodD x y) = hiD d + mulHi x y + cy64 (loD d) (x * y) 0#64 := by
  apply BitVec.eq_of_toNat_eq
  rw [hiD_nat, sum64_toNat, hiD_nat, mulHi_toNat, cy64_toNat, loD_nat, BitVec.toNat_add, prodD_nat, BitVec.toNat_mul]
  have hx := x.isLt
  have hy := y.isLt
  have hd := d.isLt
  have h : x.toNat * y.toNat ≤ 18446744073709551615 * 18446744073709551615 := Nat.mul_le_mul (by omega) (by omega)
  generalize x.toNat * y.toNat = p at *
  have e0 : (0#64).toNat = 0 := rfl
  rw [e0]
  omega
theorem loD_and (d : BitVec 128) (x y : BitVec 64) : loD (d + prodD x y) = loD d + x * y + 0#64 := by
  apply BitVec.eq_of_toNat_eq
  rw [loD_nat, sum64_toNat, loD_nat, BitVec.toNat_add, prodD_nat, BitVec.toNat_mul]
  have hx := x.isLt
  have hy := y.isLt
  generalize x.toNat * y.toNat = p at *
  have e0 : (0#64).toNat = 0 := rfl
  rw [e0]
  omega
theorem top_or (d : BitVec 128) : hiD d <<< 13 ||| loD d >>> 51 = topD d := by
  apply BitVec.eq_of_getLsbD_eq
  intro i hi
  unfold hiD loD topD
  simp only [BitVec.getLsbD_or, BitVec.getLsbD_shiftLeft, BitVec.getLsbD_setWidth, BitVec.getLsbD_ushiftRight]
  by_cases h : i < 13
  · simp [h, hi, show 51 + i < 64 by omega]
  · have : 64 + (i - 13) = 51 + i := by omega
    simp [h, hi, show i - 13 < 64 by omega, this, show ¬ 51 + i < 64 by omega]
def dblV (d : BitVec 128) : List Value := [U64 (hiD d), U64 (loD d)]
def dblC : List (BitVec 128) → List Value
  | [] => []
  | d :: D => dblV d ++ dblC D
theorem dblC_len (D : List (BitVec 128)) : (dblC D).length = 2 * D.length := by
  induction D with
  | nil => rfl
  | cons d D ih => rw [dblC, List.length_append, ih, List.length_cons]; show 2 + _ = _; omega
theorem dblC_split (D : List (BitVec 128)) : ∀ j, j < D.length → dblC D = dblC (D.take j) ++ dblV (D.getD j 0#128) ++ dblC (D.drop (j + 1)) := by
  induction D with
  | nil => intro j h; simp at h
  | cons d D ih =>
    intro j h
    cases j with
    | zero => rfl
    | succ j =>
      have := ih j (by simpa using h)
      show dblV d ++ dblC D = dblV d ++ dblC (D.take j) ++ dblV (D.getD j 0#128) ++ dblC (D.drop (j + 1))
      rw [this]; simp only [List.append_assoc]
theorem dblC_take (D : List (BitVec 128)) (j : Nat) (h : j < D.length) : (dblC (D.take j)).length = 2 * j := by
  rw [dblC_len, List.length_take, Nat.min_eq_left (by omega)]
theorem dblC_set (D : List (BitVec 128)) (j : Nat) (v : BitVec 128) (h : j < D.length) : (dblC D).take (2 * j) ++ dblV v ++ (dblC D).drop (2 * j + 2) = dblC (D.set j v) := by
  have h1 := dblC_split D j h
  have h2 := dblC_take D j h
  have h3 := dblC_split (D.set j v) j (by rw [List.length_set]; exact h)
  rw [h3, List.take_set_of_le (by omega), List.drop_set_of_lt (by omega)]
  have h4 : (D.set j v).getD j 0#128 = v := by rw [List.getD_eq_getElem?_getD, List.getElem?_set_self h]; rfl
  rw [h4]
  congr 1
  · congr 1
    rw [h1, List.append_assoc, List.take_append_of_le_length (by omega), List.take_of_length_le (by omega)]
  · rw [h1, List.drop_append_of_le_length (by rw [List.length_append, h2]; show _ ≤ _ + 2; omega)]
    rw [List.drop_of_length_le (by rw [List.length_append, h2]; show _ + 2 ≤ _; omega), List.nil_append]
end Plain
namespace Go.Sym
open Plain
theorem one_dbl (d : BitVec 128) : ∀ u ∈ dblV d, u.oneCell' = true := by
  intro u hu
  simp only [dblV, List.mem_cons, List.not_mem_nil, or_false] at hu
  rcases hu with rfl | rfl <;> rfl
section
variable {P : Program} {n : Nat} {e : Env} {B : World} {E : List Nat} {L L' : List Ent} {ops : Array Oper} {Q : Exit → Act → World → Prop} {K : Act → World → Prop}
theorem V.loadD {t ty : TypeId} {x : Operand} {g j : Nat} {tb : TypeId} {D : List (BitVec 128)} (ht : ∀ w, (isAgg t).run P w = .ok true w) (hs : ∀ w, (sizeOf t).run P w = .ok 2 w) (hx : ev e x = some (.pointer (some ⟨g, 2 * j, none⟩)))
    (hm : (⟨g, tb, dblC D⟩ : Ent) ∈ L) (hj : j < D.length) : VOp P n e B E L (.load t x) ty (.agg (dblV (D.getD j 0#128)).toArray) :=
  V.loadN ht hs hx (V.cellsO hm (dblC_split D j hj) (dblC_take D j hj))
theorem W.storeD {t ty tb : TypeId} {x y : Operand} {g j : Nat} {D : List (BitVec 128)} {v : BitVec 128} (hs : ∀ w, (sizeOf t).run P w = .ok 2 w) (hx : ev e x = some (.pointer (some ⟨g, 2 * j, none⟩))) (hy : ev e y = some (.agg (dblV v).toArray))
    (hj : j < D.length) (hu : Upd ⟨g, tb, dblC D⟩ ⟨g, tb, dblC (D.set j v)⟩ L L') (h : Tr n e B E L' K) : WOp P n e B E L Q none (.store t x y) ty K :=
  W.storeCells (vs := dblV v) (cs := dblC D) (tb := tb) hs hx hy rfl rfl (one_dbl v) (by show Upd _ ⟨g, tb, (dblC D).take (2 * j) ++ dblV v ++ (dblC D).drop (2 * j + 2)⟩ L L'; rw [dblC_set D j v hj]; exact hu) (by rw [dblC_len]; show _ + 2 ≤ _; omega) h
end
end Go.Sym
namespace Plain
open Go Go.Sym
def addTo (l m : List (BitVec 64)) : Nat → List (BitVec 64)
  | 0 => l
  | k + 1 => (addTo l m k).set k ((addTo l m k).getD k 0#64 + m.getD k 0#64)
theorem addTo_len (l m : List (BitVec 64)) (k : Nat) : (addTo l m k).length = l.length := by
  induction k with
  | zero => rfl
  | succ k ih => rw [addTo, List.length_set, ih]
def addL (l m : List (BitVec 64)) : List (BitVec 64) := carriedL (addTo l m 5)
def fourW (k : Nat) : BitVec 64 := if k = 0 then 9007199254740916#64 else 9007199254740988#64
def subTo (l m : List (BitVec 64)) : Nat → List (BitVec 64)
  | 0 => l
  | k + 1 => (subTo l m k).set k ((subTo l m k).getD k 0#64 + (fourW k - m.getD k 0#64))
theorem subTo_len (l m : List (BitVec 64)) (k : Nat) : (subTo l m k).length = l.length := by
  induction k with
  | zero => rfl
  | succ k ih => rw [subTo, List.length_set, ih]
def subL (l m : List (BitVec 64)) : List (BitVec 64) := carriedL (subTo l m 5)
/-- The product's five sums, step by step. -/
def accM (l m : List (BitVec 64)) : Nat → List (BitVec 128)
  | 0 => List.replicate 5 0#128
  | s + 1 => if 5 ≤ s / 5 + s % 5 then (accM l m s).set (s / 5 + s % 5 - 5) ((accM l m s).getD (s / 5 + s % 5 - 5) 0#128 + prodD (l.getD (s / 5) 0#64 * 19#64) (m.getD (s % 5) 0#64))
      else (accM l m s).set (s / 5 + s % 5) ((accM l m s).getD (s / 5 + s % 5) 0#128 + prodD (l.getD (s / 5) 0#64) (m.getD (s % 5) 0#64))
theorem accM_len (l m : List (BitVec 64)) (s : Nat) : (accM l m s).length = 5 := by
  induction s with
  | zero => rfl
  | succ s ih =>
    rw [accM]
    split <;> rw [List.length_set, ih]
theorem accM_high (l m : List (BitVec 64)) (i k : Nat) (hk : k < 5) (h : 5 ≤ i + k) : accM l m (5 * i + (k + 1)) = (accM l m (5 * i + k)).set (i + k - 5) ((accM l m (5 * i + k)).getD (i + k - 5) 0#128 + prodD (l.getD i 0#64 * 19#64) (m.getD k 0#64)) := by
  have h1 : (5 * i + k) / 5 = i := by omega
  have h2 : (5 * i + k) % 5 = k := by omega
  rw [show 5 * i + (k + 1) = (5 * i + k) + 1 by omega, accM, h1, h2, if_pos h]
theorem accM_low (l m : List (BitVec 64)) (i k : Nat) (hk : k < 5) (h : ¬ 5 ≤ i + k) : accM l m (5 * i + (k + 1)) = (accM l m (5 * i + k)).set (i + k) ((accM l m (5 * i + k)).getD (i + k) 0#128 + prodD (l.getD i 0#64) (m.getD k 0#64)) := by
  have h1 : (5 * i + k) / 5 = i := by omega
  have h2 : (5 * i + k) % 5 = k := by omega
  rw [show 5 * i + (k + 1) = (5 * i + k) + 1 by omega, accM, h1, h2, if_neg h]
/-- The sums, carried: themselves, the limbs, and what is carried. -/
def outM (D : List (BitVec 128)) : Nat → List (BitVec 128) × List (BitVec 64) × BitVec 64
  | 0 => (D, List.replicate 5 0#64, 0#64)
  | k + 1 => ((outM D k).1.set k ((outM D k).1.getD k 0#128 + prodD (outM D k).2.2 1#64), (outM D k).2.1.set k (loD ((outM D k).1.getD k 0#128 + prodD (outM D k).2.2 1#64) &&& 2251799813685247#64), topD ((outM D k).1.getD k 0#128 + prodD (outM D k).2.2 1#64))
theorem outM_len (D : List (BitVec 128)) (k : Nat) : (outM D k).1.length = D.length ∧ (outM D k).2.1.length = 5 := by
  induction k with
  | zero => exact ⟨rfl, rfl⟩
  | succ k ih => exact ⟨by rw [outM, List.length_set, ih.1], by rw [outM, List.length_set, ih.2]⟩
def firstM (s : List (BitVec 64) × BitVec 64) : BitVec 128 := (s.1.getD 0 0#64).setWidth 128 + prodD s.2 19#64
def lastM (s : List (BitVec 64) × BitVec 64) : List (BitVec 64) := (s.1.set 0 (loD (firstM s) &&& 2251799813685247#64)).set 1 ((s.1.set 0 (loD (firstM s) &&& 2251799813685247#64)).getD 1 0#64 + topD (firstM s))
def mulL (l m : List (BitVec 64)) : List (BitVec 64) := carriedL (lastM (outM (accM l m 25) 5).2)
theorem dbl_small (x : BitVec 64) : dblV (x.setWidth 128) = [U64 0#64, U64 x] := by
  have h1 : hiD (x.setWidth 128) = 0#64 := by
    apply BitVec.eq_of_toNat_eq
    rw [hiD_nat, BitVec.toNat_setWidth]
    have := x.isLt
    rw [Nat.mod_eq_of_lt (show x.toNat < 2 ^ 128 by omega)]
    show _ = 0
    omega
  have h2 : loD (x.setWidth 128) = x := by
    apply BitVec.eq_of_toNat_eq
    rw [loD_nat, BitVec.toNat_setWidth]
    have := x.isLt
    omega
  rw [dblV, h1, h2]
theorem dblC_lo (D : List (BitVec 128)) (j : Nat) (h : j < D.length) : (dblC D)[2 * j + 1]? = some (U64 (loD (D.getD j 0#128))) := by
  have h2 := dblC_take D j h
  rw [dblC_split D j h, List.append_assoc, List.getElem?_append_right (by omega), h2, show 2 * j + 1 - 2 * j = 1 by omega]
  rfl
def timesL (l : List (BitVec 64)) : Nat → List (BitVec 64)
  | 0 => l
  | k + 1 => mulL (timesL l k) (timesL l k)
theorem lastM_len (s : List (BitVec 64) × BitVec 64) : (lastM s).length = s.1.length := by rw [lastM, List.length_set, List.length_set]
theorem mulL_len (l m : List (BitVec 64)) : (mulL l m).length = 5 := by rw [mulL, carriedL_len, lastM_len, (outM_len _ 5).2]
theorem timesL_len (l : List (BitVec 64)) (k : Nat) (h : l.length = 5) : (timesL l k).length = 5 := by
  cases k with
  | zero => exact h
  | succ k => exact mulL_len _ _
end Plain
