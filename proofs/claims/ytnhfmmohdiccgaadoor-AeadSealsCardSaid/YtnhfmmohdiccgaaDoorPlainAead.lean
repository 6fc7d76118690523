/-
  Plain laws of package aead.
-/
import Derived.Test.YtnhfmmohdiccgaaDoorPlainRef2
import Derived.Test.YtnhfmmohdiccgaaDoorPlainRef3c
import Derived.Test.YtnhfmmohdiccgaaDoorPlainLaw3
namespace Go.Sym
theorem Upd.right {x y : Ent} {L L' : List Ent} (h : Upd x y L L') : ∀ M : List Ent, Upd x y (M ++ L) (M ++ L')
  | [] => h
  | _ :: M => .tail (Upd.right h M)
theorem one88 (l k : List (BitVec 8)) : ∀ u ∈ l.map U8 ++ k.map U8, u.oneCell' = true := by
  intro u hu
  rw [← List.map_append] at hu
  obtain ⟨b, _, rfl⟩ := List.mem_map.1 hu
  rfl
end Go.Sym
namespace Plain
def sumTo (m1 m2 : Nat) : Nat → Nat
  | 0 => 0
  | 1 => m1
  | _ => m1 + m2
def catTo (xs ys : List (BitVec 8)) : Nat → List (BitVec 8)
  | 0 => []
  | 1 => xs
  | _ => xs ++ ys
open Go.Sym
/-- How many zeros fill a row to a multiple of sixteen. -/
def padN (n : Nat) : Nat := (16 - n % 16) % 16
theorem padN_neg (n : Nat) : (-(n : Int)) % ((2 ^ 4 : Nat) : Int) = ((padN n : Nat) : Int) := by unfold padN; omega
theorem padN_lt (n : Nat) : padN n < 16 := Nat.mod_lt _ (by decide)
def padB (b : List (BitVec 8)) : List (BitVec 8) := b ++ List.replicate (padN b.length) 0#8
theorem padB_len (b : List (BitVec 8)) : (padB b).length = b.length + padN b.length := by simp [padB]
def authB (beside enc : List (BitVec 8)) : List (BitVec 8) := padB beside ++ padB enc ++ putL (BitVec.ofNat 64 beside.length) 8 ++ putL (BitVec.ofNat 64 enc.length) 8
/-- What is authenticated, step by step. -/
def tagAcc (beside enc : List (BitVec 8)) (m1 : Nat) : Nat → List (BitVec 8)
  | 0 => []
  | 1 => padB beside
  | 2 => padB beside ++ padB enc
  | 3 => padB beside ++ padB enc ++ putL (BitVec.ofNat 64 m1) 8
  | _ => authB beside enc
def otk (key nonce : List (BitVec 8)) : List (BitVec 8) := (blockL key 0#32 nonce).take 32
theorem otk_len (key nonce : List (BitVec 8)) : (otk key nonce).length = 32 := by rw [otk, List.length_take, blockL_len]; rfl
def tagL (key nonce beside enc : List (BitVec 8)) : List (BitVec 8) := polyTag (otk key nonce) (authB beside enc)
theorem tagL_len (key nonce beside enc : List (BitVec 8)) : (tagL key nonce beside enc).length = 16 := polyTag_len _ _
def sealL (key nonce beside b : List (BitVec 8)) : List (BitVec 8) := streamL key 1#32 nonce b ++ tagL key nonce beside (streamL key 1#32 nonce b)
theorem sealL_len (key nonce beside b : List (BitVec 8)) : (sealL key nonce beside b).length = b.length + 16 := by rw [sealL, List.length_append, streamL_len, tagL_len]
theorem sealL_take (key nonce beside b : List (BitVec 8)) : (sealL key nonce beside b).take b.length = streamL key 1#32 nonce b := by
  rw [sealL]
  exact List.take_left' (streamL_len _ _ _ _)
theorem sealL_drop (key nonce beside b : List (BitVec 8)) : (sealL key nonce beside b).drop b.length = tagL key nonce beside (streamL key 1#32 nonce b) := by
  rw [sealL]
  exact List.drop_left' (streamL_len _ _ _ _)
/-- Whether what is sealed is opened. -/
def opens (key nonce beside x : List (BitVec 8)) : Prop := 16 ≤ x.length ∧ tagL key nonce beside (x.take (x.length - 16)) = x.drop (x.length - 16)
instance (key nonce beside x : List (BitVec 8)) : Decidable (opens key nonce beside x) := by unfold opens; infer_instance
def openL (key nonce x : List (BitVec 8)) : List (BitVec 8) := streamL key 1#32 nonce (x.take (x.length - 16))
theorem opens_seal (key nonce beside b : List (BitVec 8)) : opens key nonce beside (sealL key nonce beside b) ∧ openL key nonce (sealL key nonce beside b) = b := by
  have h : (sealL key nonce beside b).length - 16 = b.length := by rw [sealL_len]; omega
  unfold opens openL
  rw [h, sealL_take, sealL_drop]
  exact ⟨⟨by rw [sealL_len]; omega, rfl⟩, stream_twice key nonce 1#32 b⟩
end Plain
