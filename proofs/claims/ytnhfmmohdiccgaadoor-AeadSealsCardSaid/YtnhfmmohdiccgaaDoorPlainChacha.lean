/-
  Plain laws of package chacha.
-/
import Derived.Test.YtnhfmmohdiccgaaDoorPlainLaw1
import Derived.Test.YtnhfmmohdiccgaaDoorPlainPolyB
namespace Go.Sym
theorem one32 (l : List (BitVec 32)) : ∀ u ∈ l.map U32, u.oneCell' = true := by
  intro u hu
  obtain ⟨b, _, rfl⟩ := List.mem_map.1 hu
  rfl
end Go.Sym
namespace Plain
open Go.Sym
abbrev W32 := List (BitVec 32)
/-- A sum, and what differs from it, turned. -/
def hstep (s : W32) (a b d : Nat) (n : Int) : W32 :=
  (s.set a (s.getD a 0#32 + s.getD b 0#32)).set d (rotI ((s.set a (s.getD a 0#32 + s.getD b 0#32)).getD d 0#32 ^^^ (s.set a (s.getD a 0#32 + s.getD b 0#32)).getD a 0#32) n)
theorem hstep_len (s : W32) (a b d : Nat) (n : Int) : (hstep s a b d n).length = s.length := by simp [hstep]
def quarterL (s : W32) (a b c d : Nat) : W32 := hstep (hstep (hstep (hstep s a b d 16) c d b 12) a b d 8) c d b 7
theorem quarterL_len (s : W32) (a b c d : Nat) : (quarterL s a b c d).length = s.length := by simp [quarterL, hstep_len]
def qsteps (s : W32) (a b c d : Nat) : Nat → W32
  | 0 => s
  | 1 => hstep (hstep s a b d 16) c d b 12
  | _ => quarterL s a b c d
theorem qsteps_len (s : W32) (a b c d k : Nat) : (qsteps s a b c d k).length = s.length := by
  unfold qsteps
  split <;> simp [hstep_len, quarterL_len]
def qtab : List (Nat × Nat × Nat × Nat) := [(0, 4, 8, 12), (1, 5, 9, 13), (2, 6, 10, 14), (3, 7, 11, 15), (0, 5, 10, 15), (1, 6, 11, 12), (2, 7, 8, 13), (3, 4, 9, 14)]
def qflat : List Nat := [0, 4, 8, 12, 1, 5, 9, 13, 2, 6, 10, 14, 3, 7, 11, 15, 0, 5, 10, 15, 1, 6, 11, 12, 2, 7, 8, 13, 3, 4, 9, 14]
def qAt (k : Nat) : Nat × Nat × Nat × Nat := qtab.getD k (0, 0, 0, 0)
def turnTo (s : W32) : Nat → W32
  | 0 => s
  | k + 1 => quarterL (turnTo s k) (qAt k).1 (qAt k).2.1 (qAt k).2.2.1 (qAt k).2.2.2
theorem turnTo_len (s : W32) (k : Nat) : (turnTo s k).length = s.length := by
  induction k with
  | zero => rfl
  | succ k ih => rw [turnTo, quarterL_len, ih]
def roundsTo (s : W32) : Nat → W32
  | 0 => s
  | k + 1 => turnTo (roundsTo s k) 8
theorem roundsTo_len (s : W32) (k : Nat) : (roundsTo s k).length = s.length := by
  induction k with
  | zero => rfl
  | succ k ih => rw [roundsTo, turnTo_len, ih]
theorem qAt_lt : ∀ k, k < 8 → (qAt k).1 < 16 ∧ (qAt k).2.1 < 16 ∧ (qAt k).2.2.1 < 16 ∧ (qAt k).2.2.2 < 16 := by decide
theorem qflat_at : ∀ k, k < 8 → (qflat.drop (k * 4)).take 4 = [(qAt k).1, (qAt k).2.1, (qAt k).2.2.1, (qAt k).2.2.2] := by decide
/-! ### Words of bytes -/
def wordAt (bs : List (BitVec 8)) (i : Nat) : BitVec 32 := (getW false bs (4 * i) 4).setWidth 32
def wordsL (bs : List (BitVec 8)) : W32 := (List.range (bs.length / 4)).map (wordAt bs)
theorem wordsL_len (bs : List (BitVec 8)) : (wordsL bs).length = bs.length / 4 := by simp [wordsL]
theorem wordsL_get (bs : List (BitVec 8)) (i : Nat) (h : i < bs.length / 4) : (wordsL bs)[i]? = some (wordAt bs i) := by simp [wordsL, h]
theorem wordAt_left (a b : List (BitVec 8)) (i : Nat) (h : 4 * i + 4 ≤ a.length) : wordAt (a ++ b) i = wordAt a i := by
  unfold wordAt getW cutB
  rw [List.drop_append_of_le_length (by omega), List.take_append_of_le_length (by rw [List.length_drop]; omega)]
theorem wordAt_right (a b : List (BitVec 8)) (i k : Nat) (h : a.length = 4 * k) : wordAt (a ++ b) (k + i) = wordAt b i := by
  unfold wordAt getW cutB
  rw [show 4 * (k + i) = a.length + 4 * i by omega, ← List.drop_drop, List.drop_left]
theorem wordsL_append (a b : List (BitVec 8)) (k : Nat) (h : a.length = 4 * k) : wordsL (a ++ b) = wordsL a ++ wordsL b := by
  unfold wordsL
  have e : (a ++ b).length / 4 = k + b.length / 4 := by rw [List.length_append]; omega
  have e2 : a.length / 4 = k := by omega
  rw [e, e2, List.range_add, List.map_append, List.map_map]
  congr 1
  · apply List.map_congr_left
    intro i hi
    have := List.mem_range.1 hi
    exact wordAt_left a b i (by omega)
  · apply List.map_congr_left
    intro i _
    exact wordAt_right a b i k h
/-! ### The first words -/
def expandB : List (BitVec 8) := [101#8, 120#8, 112#8, 97#8, 110#8, 100#8, 32#8, 51#8, 50#8, 45#8, 98#8, 121#8, 116#8, 101#8, 32#8, 107#8]
def firstB (key : List (BitVec 8)) (ctr : BitVec 32) (nonce : List (BitVec 8)) : List (BitVec 8) := expandB ++ key ++ putL (ctr.setWidth 64) 4 ++ nonce
def firstL (key : List (BitVec 8)) (ctr : BitVec 32) (nonce : List (BitVec 8)) : W32 := wordsL (firstB key ctr nonce)
theorem firstB_len (key : List (BitVec 8)) (ctr : BitVec 32) (nonce : List (BitVec 8)) (hk : key.length = 32) (hn : nonce.length = 12) : (firstB key ctr nonce).length = 64 := by
  simp [firstB, hk, hn, putL_len, expandB]
theorem firstL_len (key : List (BitVec 8)) (ctr : BitVec 32) (nonce : List (BitVec 8)) (hk : key.length = 32) (hn : nonce.length = 12) : (firstL key ctr nonce).length = 16 := by
  rw [firstL, wordsL_len, firstB_len key ctr nonce hk hn]
def fillW (s : W32) (i : Nat) : W32 := s.take i ++ List.replicate (16 - i) 0#32
theorem fillW_set (s : W32) (i : Nat) (v : BitVec 32) (hs : s.length = 16) (hi : i < 16) (hv : s[i]? = some v) : (fillW s i).set i v = fillW s (i + 1) := by
  obtain ⟨r, hr⟩ : ∃ r, 16 - i = r + 1 := ⟨15 - i, by omega⟩
  have hr' : 16 - (i + 1) = r := by omega
  have hl : (s.take i).length = i := by rw [List.length_take]; omega
  unfold fillW
  rw [List.set_append_right _ _ (by omega), hl, Nat.sub_self, hr, hr', List.replicate_succ, List.set_cons_zero, List.take_add_one, hv]
  simp
theorem fillW_len (s : W32) (i : Nat) (hs : s.length = 16) (hi : i ≤ 16) : (fillW s i).length = 16 := by simp [fillW, hs]; omega
theorem fillW_zero (s : W32) : fillW s 0 = List.replicate 16 0#32 := by simp [fillW]
theorem fillW_all (s : W32) (hs : s.length = 16) : fillW s 16 = s := by simp [fillW, List.take_of_length_le (Nat.le_of_eq hs)]
/-! ### A block -/
def outAt (s was : W32) (i : Nat) : List (BitVec 8) := putL ((s.getD i 0#32 + was.getD i 0#32).setWidth 64) 4
def outTo (s was : W32) : Nat → List (BitVec 8)
  | 0 => []
  | i + 1 => outTo s was i ++ outAt s was i
theorem outAt_len (s was : W32) (i : Nat) : (outAt s was i).length = 4 := putL_len _ _
theorem outTo_len (s was : W32) (i : Nat) : (outTo s was i).length = 4 * i := by
  induction i with
  | zero => rfl
  | succ i ih => rw [outTo, List.length_append, ih, outAt_len]; omega
def blockL (key : List (BitVec 8)) (ctr : BitVec 32) (nonce : List (BitVec 8)) : List (BitVec 8) := outTo (roundsTo (firstL key ctr nonce) 10) (firstL key ctr nonce) 16
theorem blockL_len (key : List (BitVec 8)) (ctr : BitVec 32) (nonce : List (BitVec 8)) : (blockL key ctr nonce).length = 64 := outTo_len _ _ _
def fillO (s was : W32) (i : Nat) : List (BitVec 8) := outTo s was i ++ List.replicate (64 - 4 * i) 0#8
theorem fillO_len (s was : W32) (i : Nat) (h : i ≤ 16) : (fillO s was i).length = 64 := by
  rw [fillO, List.length_append, outTo_len, List.length_replicate]; omega
theorem fillO_zero (s was : W32) : fillO s was 0 = List.replicate 64 0#8 := rfl
theorem fillO_all (s was : W32) : fillO s was 16 = outTo s was 16 := by simp [fillO]
theorem fillO_step (s was : W32) (i : Nat) (h : i < 16) : (fillO s was i).take (4 * i) ++ (outAt s was i).take 4 ++ (fillO s was i).drop (4 * i + 4) = fillO s was (i + 1) := by
  unfold fillO
  rw [List.take_left' (outTo_len s was i), List.take_of_length_le (Nat.le_of_eq (outAt_len s was i)), ← List.drop_drop, List.drop_left' (outTo_len s was i), List.drop_replicate, outTo]
  rw [show 64 - 4 * i - 4 = 64 - 4 * (i + 1) by omega]
theorem ctr_succ (ctr : BitVec 32) (k : Nat) : ctr + BitVec.ofNat 32 (k + 1) = ctr + BitVec.ofNat 32 k + 1#32 := by
  rw [BitVec.ofNat_add, BitVec.add_assoc]
/-! ### A stream -/
def ksAt (key nonce : List (BitVec 8)) (ctr : BitVec 32) (i : Nat) : BitVec 8 := (blockL key (ctr + BitVec.ofNat 32 (i / 64)) nonce).getD (i % 64) 0#8
def streamL (key : List (BitVec 8)) (ctr : BitVec 32) (nonce b : List (BitVec 8)) : List (BitVec 8) := b.mapIdx fun i x => x ^^^ ksAt key nonce ctr i
theorem streamL_len (key : List (BitVec 8)) (ctr : BitVec 32) (nonce b : List (BitVec 8)) : (streamL key ctr nonce b).length = b.length := by simp [streamL]
theorem streamL_get (key : List (BitVec 8)) (ctr : BitVec 32) (nonce b : List (BitVec 8)) (i : Nat) (a : BitVec 8) (h : b[i]? = some a) : (streamL key ctr nonce b)[i]? = some (a ^^^ ksAt key nonce ctr i) := by
  rw [streamL, List.getElem?_mapIdx, h]; rfl
theorem streamL_step (key : List (BitVec 8)) (ctr : BitVec 32) (nonce b : List (BitVec 8)) (k : Nat) :
    (streamL key ctr nonce b).take (64 * k) ++ xorL (b.drop (64 * k)) (blockL key (ctr + BitVec.ofNat 32 k) nonce) = (streamL key ctr nonce b).take (64 * (k + 1)) := by
  have h1 : (streamL key ctr nonce b).take (64 * (k + 1)) = (streamL key ctr nonce b).take (64 * k) ++ ((streamL key ctr nonce b).drop (64 * k)).take 64 := by
    rw [show 64 * (k + 1) = 64 * k + 64 by omega, List.take_add]
  rw [h1]
  congr 1
  apply List.ext_getElem?
  intro j
  rw [xorL, List.getElem?_zipWith, List.getElem?_take, List.getElem?_drop, List.getElem?_drop, streamL, List.getElem?_mapIdx]
  have hbl := blockL_len key (ctr + BitVec.ofNat 32 k) nonce
  by_cases hj : j < 64
  · rw [if_pos hj]
    cases hb : b[64 * k + j]? with
    | none => simp
    | some a =>
      have h2 : (64 * k + j) / 64 = k := by omega
      have h3 : (64 * k + j) % 64 = j := by omega
      rw [List.getElem?_eq_getElem (by omega)]
      simp only [Option.map_some, ksAt, h2, h3, List.getD_eq_getElem?_getD, List.getElem?_eq_getElem (show j < (blockL key (ctr + BitVec.ofNat 32 k) nonce).length by omega), Option.getD_some]
  · rw [if_neg hj, List.getElem?_eq_none (show (blockL key (ctr + BitVec.ofNat 32 k) nonce).length ≤ j by omega)]
    cases b[64 * k + j]? <;> rfl
theorem xor_len64 (b blk : List (BitVec 8)) (h : blk.length = 64) : (xorL b blk).length = Nat.min b.length 64 := by rw [xorL_len, h]
end Plain
