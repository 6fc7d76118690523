/-
  Contracts of Put and Get at any bytes. (Printed by any1.py.)
-/
import Derived.Test.YtnhfmmohdiccgaaDoorFrame
import Derived.Test.YtnhfmmohdiccgaaDoorRef1
import Derived.Test.YtnhfmmohdiccgaaDoorWordsB
import Derived.Test.YtnhfmmohdiccgaaDoorPlainLaw1
namespace Go.Proofs.YtnhfmmohdiccgaaDoor
open Go.Sym Plain
/-- What Put leaves. -/
def PutOut (P : Nat) (w : World) (m : Nat) (xs : List (BitVec 8)) (i : Int) (nn : BitVec 64) (big : Bool) (r : Ending) (w' : World) : Prop :=
  ∃ x : Nat × Nat × List Value, r = .returned (.slice (some ⟨x.1, 0, none⟩) (m + effI i) x.2.1) ∧ Hp w [] [⟨x.1, P, (xs ++ putW big nn (effI i)).map U8 ++ x.2.2⟩] w' ∧ ((xs ++ putW big nn (effI i)).map U8 ++ x.2.2).length = x.2.1
theorem put_any (p : Option Addr) (m c : Nat) (xs : List (BitVec 8)) (i : Int) (nn : BitVec 64) (big : Bool) (w : World) (hr : RdB w p (xs.map U8)) (hl : xs.length = m) (hn : p = none → m = 0 ∧ c = 0 ∧ xs = []) (hm : m ≤ 140737488355000) (hz : p.isSome = true ∨ 1 ≤ effI i) :
    Calls Tryd.prog 25 [.slice p m c, .int .i64 i, U64 nn, .bool big].toArray w fun r w' => PutOut 5 w m xs i nn big r w' := by
  cases p with
  | none =>
    obtain ⟨rfl, rfl, rfl⟩ := hn rfl
    rcases hz with hz | hz
    · cases hz
    · exact put_nil i nn big w hz
  | some ad =>
    by_cases h1 : 1 ≤ effI i
    · exact put_some ad m c xs i nn big w hr hl hm h1
    · exact put_zero ad m c xs i nn big w hr hl hm (by omega)
def getOK (m : Nat) (at0 size : Int) : Prop := 1 ≤ size ∧ size ≤ 8 ∧ 0 ≤ at0 ∧ at0 + size ≤ m
instance (m : Nat) (at0 size : Int) : Decidable (getOK m at0 size) := by unfold getOK; infer_instance
def getA (big : Bool) (xs : List (BitVec 8)) (at0 size : Int) : BitVec 64 := if getOK xs.length at0 size then getW big xs at0.toNat size.toNat else 0#64
theorem get_any (p : Option Addr) (m c : Nat) (xs : List (BitVec 8)) (at0 size : Int) (big : Bool) (w : World) (hr : RdB w p (xs.map U8)) (hl : xs.length = m) (hm : m ≤ 9223372036854775807) (ha0 : -9223372036854775808 ≤ at0) (ha1 : at0 ≤ 9223372036854775807) :
    Calls Tryd.prog 36 [.slice p m c, .int .i64 at0, .int .i64 size, .bool big].toArray w fun r w' => r = .returned (.tuple #[U64 (getA big xs at0 size), .bool (decide (getOK m at0 size))]) ∧ Hp w [] [] w' := by
  subst hl
  by_cases h : getOK xs.length at0 size
  · have h2 : getA big xs at0 size = getW big xs at0.toNat size.toNat := by unfold getA; rw [if_pos h]
    rw [h2, decide_eq_true h]
    obtain ⟨h1, h8, h0, hs⟩ := h
    obtain ⟨a, rfl⟩ := Int.eq_ofNat_of_zero_le h0
    obtain ⟨k, rfl⟩ := Int.eq_ofNat_of_zero_le (show (0 : Int) ≤ size by omega)
    exact get_ok p xs.length c a k big xs w hr rfl hm (by omega) (by omega) (by omega)
  · have h2 : getA big xs at0 size = 0#64 := by unfold getA; rw [if_neg h]
    rw [h2, decide_eq_false h]
    exact get_no p xs.length c at0 size big w hm ha0 ha1 h
theorem getA_putW (big : Bool) (nn : BitVec 64) (xs : List (BitVec 8)) (k : Nat) (h1 : 1 ≤ k) (h8 : k ≤ 8) : getA big (xs ++ putW big nn k) (xs.length : Int) (k : Int) = getL (putL nn k).reverse := by
  have h : getOK (xs ++ putW big nn k).length (xs.length : Int) (k : Int) := by
    unfold getOK
    rw [List.length_append, putW_len]
    omega
  unfold getA
  rw [if_pos h]
  exact getW_putW big nn xs k
theorem rget_any (p : Option Addr) (m c : Nat) (xs : List (BitVec 8)) (at0 size : Int) (big : Bool) (w : World) (hr : RdB w p (xs.map U8)) (hl : xs.length = m) (hm : m ≤ 9223372036854775807) (ha0 : -9223372036854775808 ≤ at0) (ha1 : at0 ≤ 9223372036854775807) :
    Calls Tryd.prog 40 [.slice p m c, .int .i64 at0, .int .i64 size, .bool big].toArray w fun r w' => r = .returned (.tuple #[U64 (getA big xs at0 size), .bool (decide (getOK m at0 size))]) ∧ Hp w [] [] w' := by
  subst hl
  by_cases h : getOK xs.length at0 size
  · have h2 : getA big xs at0 size = getW big xs at0.toNat size.toNat := by unfold getA; rw [if_pos h]
    rw [h2, decide_eq_true h]
    obtain ⟨h1, h8, h0, hs⟩ := h
    obtain ⟨a, rfl⟩ := Int.eq_ofNat_of_zero_le h0
    obtain ⟨k, rfl⟩ := Int.eq_ofNat_of_zero_le (show (0 : Int) ≤ size by omega)
    exact rget_ok p xs.length c a k big xs w hr rfl hm (by omega) (by omega) (by omega)
  · have h2 : getA big xs at0 size = 0#64 := by unfold getA; rw [if_neg h]
    rw [h2, decide_eq_false h]
    exact rget_no p xs.length c at0 size big w hm ha0 ha1 h
end Go.Proofs.YtnhfmmohdiccgaaDoor
