/-
  Plain laws for the statements of hatchwaylaw04; rows that outlive a mark.
-/
import Derived.Test.YtnhfmmohdiccgaaDoorPlainAead
import Derived.Test.YtnhfmmohdiccgaaDoorFrame
namespace Go.Sym
/-- A row that lies outside the blocks at hand. -/
abbrev KeptRow (B : World) (E : List Nat) (p : Option Addr) (vs : List Value) : Prop := RdB B p vs ∧ ∀ a, p = some a → a.block ∉ E
theorem KeptRow.next {B w1 : World} {E : List Nat} {L : List Ent} {p : Option Addr} {vs : List Value} (hw : Hp B E L w1) (h : KeptRow B E p vs) (h0 : 0 < vs.length) : KeptRow w1 (L.map (·.g)) p vs := by
  refine ⟨(RdP.old h.1 h.2).now hw, fun a ha hm => ?_⟩
  subst ha
  obtain ⟨x, hx, hg⟩ := List.mem_map.1 hm
  have h2 := (hw.blk x hx).2
  match vs, h0 with
  | v :: vs', _ =>
    have h3 := World.block_lt_of_cell? B _ (h.1 0 v rfl).2
    have h4 : a.block < B.heap.size := h3
    rcases h2 with h2 | h2
    · exact h.2 a rfl (hg ▸ h2)
    · have h5 : B.heap.size ≤ x.g := h2
      have h6 : x.g = a.block := hg
      omega
theorem KeptRow.bytes {B w1 : World} {E : List Nat} {L : List Ent} {g m : Nat} {xs : List (BitVec 8)} (h : KeptRow B E (some ⟨g, 0, none⟩) (xs.map U8)) (hw : Hp B E L w1) (hl : xs.length = m) (hm : m ≤ 1000000) : Bytes w1 (some ⟨g, 0, none⟩) m m xs :=
  ⟨(RdP.old h.1 h.2).now hw, hl, Nat.le_refl _, by omega, fun h => by cases h⟩
theorem Bytes.no (w : World) : Bytes w Option.none 0 0 [] := ⟨fun j u h => by simp at h, rfl, Nat.le_refl _, by omega, fun _ => ⟨rfl, rfl, rfl⟩⟩
end Go.Sym
namespace Plain
open Go.Sym
def K1 : List (BitVec 8) := 1#8 :: List.replicate 31 0#8
def N2 : List (BitVec 8) := 2#8 :: List.replicate 11 0#8
def besB : List (BitVec 8) := [98#8, 101#8, 115#8, 105#8, 100#8, 101#8]
def abcB : List (BitVec 8) := [97#8, 98#8, 99#8]
def shortB : List (BitVec 8) := [115#8, 104#8, 111#8, 114#8, 116#8]
def oneB : List (BitVec 8) := [111#8, 110#8, 101#8]
/-- What is sealed opens. -/
theorem open_seal (key nonce beside b : List (BitVec 8)) (n : Nat) (hn : b.length = n) :
    tagL key nonce beside ((sealL key nonce beside b).take (n + 16 - 16)) = (sealL key nonce beside b).drop (n + 16 - 16) ∧ streamL key 1#32 nonce ((sealL key nonce beside b).take (n + 16 - 16)) = b := by
  subst hn
  rw [Nat.add_sub_cancel, sealL_take, sealL_drop]
  exact ⟨rfl, stream_twice key nonce 1#32 b⟩
end Plain
