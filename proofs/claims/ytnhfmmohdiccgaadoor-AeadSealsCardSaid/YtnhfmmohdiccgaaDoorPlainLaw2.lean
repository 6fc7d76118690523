/-
  Plain laws for the statements of hatchwaylaw02.
-/
import Derived.Test.YtnhfmmohdiccgaaDoorPlainChacha
namespace Plain
open Go.Sym
theorem stream_twice (key nonce : List (BitVec 8)) (ctr : BitVec 32) (b : List (BitVec 8)) : streamL key ctr nonce (streamL key ctr nonce b) = b := by
  apply List.ext_getElem?
  intro i
  rw [streamL, streamL, List.getElem?_mapIdx, List.getElem?_mapIdx]
  cases b[i]? with
  | none => rfl
  | some a => simp only [Option.map_some]; rw [BitVec.xor_assoc, BitVec.xor_self, BitVec.xor_zero]
theorem ksAt_shift (key nonce : List (BitVec 8)) (ctr : BitVec 32) (n i : Nat) : ksAt key nonce ctr (64 * n + i) = ksAt key nonce (ctr + BitVec.ofNat 32 n) i := by
  unfold ksAt
  rw [show (64 * n + i) / 64 = n + i / 64 by omega, show (64 * n + i) % 64 = i % 64 by omega, BitVec.ofNat_add, BitVec.add_assoc]
theorem stream_parts (key nonce : List (BitVec 8)) (ctr : BitVec 32) (b : List (BitVec 8)) (n at0 : Nat) (h : at0 = Nat.min (64 * n) b.length) :
    streamL key ctr nonce b = streamL key ctr nonce (b.take at0) ++ streamL key (ctr + BitVec.ofNat 32 n) nonce (b.drop at0) := by
  apply List.ext_getElem?
  intro i
  have hl : (streamL key ctr nonce (b.take at0)).length = at0 := by
    rw [streamL_len, List.length_take, h]
    exact Nat.min_eq_left (Nat.min_le_right _ _)
  rcases Nat.lt_or_ge i at0 with hi | hi
  · rw [List.getElem?_append_left (by omega), streamL, streamL, List.getElem?_mapIdx, List.getElem?_mapIdx, List.getElem?_take, if_pos hi]
  · rw [List.getElem?_append_right (by omega), hl, streamL, streamL, List.getElem?_mapIdx, List.getElem?_mapIdx, List.getElem?_drop, show at0 + (i - at0) = i by omega]
    cases hb : b[i]? with
    | none => rw [Option.map_none, Option.map_none]
    | some a =>
      have hlt := (List.getElem?_eq_some_iff.1 hb).1
      have : at0 = 64 * n := by
        rcases Nat.le_total (64 * n) b.length with h' | h'
        · rw [h]; exact Nat.min_eq_left h'
        · have : at0 = b.length := by rw [h]; exact Nat.min_eq_right h'
          omega
      have e := ksAt_shift key nonce ctr n (i - at0)
      rw [show 64 * n + (i - at0) = i by omega] at e
      simp only [Option.map_some]
      rw [e]
theorem stream_take (key nonce : List (BitVec 8)) (ctr : BitVec 32) (b : List (BitVec 8)) (n : Nat) : (streamL key ctr nonce b).take n = streamL key ctr nonce (b.take n) := by
  apply List.ext_getElem?
  intro i
  rw [List.getElem?_take, streamL, streamL, List.getElem?_mapIdx, List.getElem?_mapIdx, List.getElem?_take]
  split <;> rfl
theorem stream_sums (key nonce : List (BitVec 8)) (ctr : BitVec 32) (i : Nat) (a b : BitVec 8) : (a ^^^ ksAt key nonce ctr i) ^^^ (b ^^^ ksAt key nonce ctr i) = a ^^^ b := by
  rw [BitVec.xor_assoc, BitVec.xor_comm b, ← BitVec.xor_assoc (ksAt key nonce ctr i), BitVec.xor_self, BitVec.zero_xor]
def Z32 : List (BitVec 8) := List.replicate 32 0#8
def Z12 : List (BitVec 8) := List.replicate 12 0#8
theorem block_zero : (blockL Z32 0#32 Z12).getD 0 0#8 = 118#8 ∧ (blockL Z32 0#32 Z12).getD 1 0#8 = 184#8 ∧ (blockL Z32 0#32 Z12).getD 2 0#8 = 224#8 ∧ (blockL Z32 0#32 Z12).getD 3 0#8 = 173#8 ∧ (blockL Z32 0#32 Z12).getD 63 0#8 = 134#8 := by decide +kernel
theorem get8 (l : List (BitVec 8)) (j : Nat) (h : j < l.length) : (l.map U8)[j]? = some (U8 (l.getD j 0#8)) := by
  rw [List.getElem?_map, List.getD_eq_getElem?_getD, List.getElem?_eq_getElem h]; rfl
end Plain
