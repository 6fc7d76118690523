/-
  Keys of small order, as rows of bytes.
-/
import Derived.Test.YtgkndcincgpmdaaPlainAgr
namespace Plain
open Go Go.Sym
/-- 0, then 255s up to i, then 0s. -/
def ffTo (i : Nat) : List (BitVec 8) := 0#8 :: (List.replicate (i - 1) 255#8 ++ List.replicate (32 - i) 0#8)
theorem ffTo_len (i : Nat) (h1 : 1 ≤ i) (h : i ≤ 32) : (ffTo i).length = 32 := by
  rw [ffTo, List.length_cons, List.length_append, List.length_replicate, List.length_replicate]; omega
theorem ffTo_set (i : Nat) (h1 : 1 ≤ i) (h : i < 31) : (ffTo i).set i 255#8 = ffTo (i + 1) := by
  have h2 : ∀ j : Fin 31, 1 ≤ j.val → (ffTo j.val).set j.val 255#8 = ffTo (j.val + 1) := by decide +kernel
  exact h2 ⟨i, h⟩ h1
def ffTop : List (BitVec 8) := (ffTo 31).set 31 127#8
theorem small_0 (k : List (BitVec 8)) (hk : k.length = 32) : multL k zeroK = zeroK := small_any k _ hk rfl (.inl (by decide +kernel))
theorem small_1 (k : List (BitVec 8)) (hk : k.length = 32) : multL k k1B = zeroK := small_any k _ hk rfl (.inr (.inl (by decide +kernel)))
theorem small_2 (k : List (BitVec 8)) (hk : k.length = 32) : multL k (ffTop.set 0 236#8) = zeroK := small_any k _ hk rfl (.inr (.inr (by decide +kernel)))
theorem small_3 (k : List (BitVec 8)) (hk : k.length = 32) : multL k (ffTop.set 0 237#8) = zeroK := small_any k _ hk rfl (.inl (by decide +kernel))
theorem small_4 (k : List (BitVec 8)) (hk : k.length = 32) : multL k (ffTop.set 0 238#8) = zeroK := small_any k _ hk rfl (.inr (.inl (by decide +kernel)))
end Plain
