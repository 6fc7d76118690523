/-
  From the frame of a statement to the walk: arguments as bit vectors and as readable rows; what the walk leaves, as the frame asks for it.
-/
import Derived.Test.YtnhfmmohdiccgaaSymH
import Derived.WalkKit
import Derived.ProofKit
import Derived.OpenShut
import Derived.ShutString
import Derived.ChangeOld
import Derived.Below
namespace Go.Sym
open Go.RowKit

theorem Hp.below {w w' : World} {L : List Ent} (h : Hp w [] L w') : Below w.heap.size w w' :=
  ⟨h.os, h.tape, h.output, h.size, fun k hk => h.old k hk (by simp)⟩
/-- A slice of integers that came in: nil, or a row of cells. -/
def IsRow (k : IntKind) (w : World) (a : Option Addr) (len cap : Nat) (zs : List Int) : Prop :=
  (a = none ∧ len = 0 ∧ cap = 0 ∧ zs = []) ∨
  ∃ x, a = some x ∧ len ≤ cap ∧ cap ≤ maxLen ∧ zs.length = cap ∧ (∀ i, i < zs.length → w.cell? (x.add i) = some (.int k (zs.getD i 0))) ∧ ∀ n ∈ zs, (Lit.int k n).wf = true
theorem wf_range {k : IntKind} {n : Int} (h : (Lit.int k n).wf = true) : k.min ≤ n ∧ n ≤ k.max := by
  simpa [Lit.wf] using h
theorem wf8 {n : Int} (h : (Lit.int .u8 n).wf = true) : ∃ X : BitVec 8, n = (X.toNat : Int) := by
  obtain ⟨h1, h2⟩ := wf_range h
  simp [IntKind.min, IntKind.max, IntKind.signed, IntKind.bits] at h1 h2
  exact ⟨BitVec.ofNat 8 n.toNat, by simp; omega⟩
theorem wf32 {n : Int} (h : (Lit.int .u32 n).wf = true) : ∃ X : BitVec 32, n = (X.toNat : Int) := by
  obtain ⟨h1, h2⟩ := wf_range h
  simp [IntKind.min, IntKind.max, IntKind.signed, IntKind.bits] at h1 h2
  exact ⟨BitVec.ofNat 32 n.toNat, by simp; omega⟩
theorem wf64 {n : Int} (h : (Lit.int .u64 n).wf = true) : ∃ X : BitVec 64, n = (X.toNat : Int) := by
  obtain ⟨h1, h2⟩ := wf_range h
  simp [IntKind.min, IntKind.max, IntKind.signed, IntKind.bits] at h1 h2
  exact ⟨BitVec.ofNat 64 n.toNat, by simp; omega⟩
theorem wfI {n : Int} (h : (Lit.int .i64 n).wf = true) : -9223372036854775808 ≤ n ∧ n ≤ 9223372036854775807 := by
  obtain ⟨h1, h2⟩ := wf_range h
  simp [IntKind.min, IntKind.max, IntKind.signed, IntKind.bits] at h1 h2
  omega
theorem maxLen_eq : maxLen = 9223372036854775807 := rfl
/-- What a walk is told of bytes that came in. -/
structure Bytes (w : World) (a : Option Addr) (len cap : Nat) (xs : List (BitVec 8)) : Prop where
  rd : RdB w a (xs.map U8)
  length : xs.length = len
  le : len ≤ cap
  max : len ≤ 9223372036854775807
  none : a = none → len = 0 ∧ cap = 0 ∧ xs = []
theorem at_some (x : Addr) (j : Nat) : at_ (some x) j = x.add j := rfl
theorem IsRow.bytes {w : World} {a : Option Addr} {len cap : Nat} {zs : List Int} (h : IsRow .u8 w a len cap zs) : ∃ xs, Bytes w a len cap xs := by
  rcases h with ⟨rfl, rfl, rfl, rfl⟩ | ⟨x, rfl, h1, h2, h3, h4, h5⟩
  · exact ⟨[], fun j u h => by simp at h, rfl, Nat.le_refl _, by omega, fun _ => ⟨rfl, rfl, rfl⟩⟩
  · refine ⟨(zs.take len).map fun z => BitVec.ofNat 8 z.toNat, fun j u hu => ⟨rfl, ?_⟩, by simp; omega, h1, by rw [maxLen_eq] at h2; omega, fun h => by cases h⟩
    rw [List.map_map, List.getElem?_map, List.getElem?_take] at hu
    split at hu
    · rename_i hj
      have hjz : j < zs.length := by omega
      rw [List.getElem?_eq_getElem hjz] at hu
      have hu' : U8 (BitVec.ofNat 8 (zs[j]).toNat) = u := by simpa using hu
      have hw := wf8 (h5 _ (List.getElem_mem hjz))
      obtain ⟨X, hX⟩ := hw
      rw [at_some, h4 j hjz, ← hu']
      have : zs.getD j 0 = zs[j] := by simp [List.getD, hjz]
      rw [this, hX]
      simp
    · simp at hu
theorem IsRow.ints {w : World} {a : Option Addr} {len cap : Nat} {zs : List Int} (h : IsRow .i64 w a len cap zs) :
    ∃ xs : List Int, RdB w a (xs.map fun x => .int .i64 x) ∧ xs.length = len ∧ len ≤ cap ∧ cap ≤ 9223372036854775807 ∧ (∀ x ∈ xs, -9223372036854775808 ≤ x ∧ x ≤ 9223372036854775807) := by
  rcases h with ⟨rfl, rfl, rfl, rfl⟩ | ⟨x, rfl, h1, h2, h3, h4, h5⟩
  · exact ⟨[], fun j u h => by simp at h, rfl, Nat.le_refl _, by omega, by simp⟩
  · refine ⟨zs.take len, fun j u hu => ⟨rfl, ?_⟩, by simp; omega, h1, h2, fun z hz => wfI (h5 z (List.mem_of_mem_take hz))⟩
    rw [List.getElem?_map, List.getElem?_take] at hu
    split at hu
    · rename_i hj
      have hjz : j < zs.length := by omega
      rw [List.getElem?_eq_getElem hjz] at hu
      have hu' : Value.int .i64 zs[j] = u := by simpa using hu
      rw [at_some, h4 j hjz, ← hu']
      have : zs.getD j 0 = zs[j] := by simp [List.getD, hjz]
      rw [this]
    · simp at hu
/-- Fewer of them. -/
theorem Bytes.part {w : World} {a : Option Addr} {len cap : Nat} {xs : List (BitVec 8)} (h : Bytes w a len cap xs) {k : Nat} (hk : k ≤ len) : Bytes w a k cap (xs.take k) := by
  refine ⟨fun j u hu => ?_, by simp [h.length]; omega, by have := h.le; omega, by have := h.max; omega, fun hn => ?_⟩
  · rw [List.map_take, List.getElem?_take] at hu
    split at hu
    · exact h.rd j u hu
    · cases hu
  · obtain ⟨rfl, rfl, rfl⟩ := h.none hn
    exact ⟨by omega, rfl, by simp⟩
theorem Bytes.drop {w : World} {a : Option Addr} {len cap : Nat} {xs : List (BitVec 8)} (h : Bytes w a len cap xs) (k : Nat) (hk : k ≤ len) : Bytes w (if cap = k then a else a.map (·.add k)) (len - k) (cap - k) (xs.drop k) := by
  have hle := h.le
  have hl := h.length
  refine ⟨fun j u hu => ?_, by simp [hl], by omega, by have := h.max; omega, fun hn => ?_⟩
  · rw [List.map_drop, List.getElem?_drop] at hu
    have hlt : k + j < (xs.map U8).length := (List.getElem?_eq_some_iff.1 hu).1
    rw [List.length_map] at hlt
    rw [if_neg (by omega)]
    obtain ⟨h1, h2⟩ := h.rd _ _ hu
    cases a with
    | none => cases h1
    | some x =>
      refine ⟨rfl, ?_⟩
      show w.cell? ((x.add k).add j) = some u
      rw [add_add]; exact h2
  · split at hn
    · obtain ⟨rfl, rfl, rfl⟩ := h.none hn
      exact ⟨by omega, by omega, by simp⟩
    · have : a = Option.none := by cases a with
        | none => rfl
        | some x => cases hn
      obtain ⟨rfl, rfl, rfl⟩ := h.none this
      exact ⟨by omega, by omega, by simp⟩
theorem Bytes.now {w w1 : World} {L : List Ent} {a : Option Addr} {len cap : Nat} {xs : List (BitVec 8)} (h : Bytes w a len cap xs) (hw : Hp w [] L w1) : Bytes w1 a len cap xs :=
  ⟨(RdP.old h.rd (fun _ _ => by simp)).now hw, h.length, h.le, h.max, h.none⟩
theorem Bytes.old {w : World} {L : List Ent} {a : Option Addr} {len cap : Nat} {xs : List (BitVec 8)} (h : Bytes w a len cap xs) : RdP w [] L a (xs.map U8) := RdP.old h.rd (fun _ _ => by simp)
theorem one8 (l : List (BitVec 8)) : ∀ u ∈ l.map U8, u.oneCell' = true := by
  intro u hu
  obtain ⟨b, _, rfl⟩ := List.mem_map.1 hu
  rfl
/-- Bytes at the head of a block of ours. -/
theorem Bytes.own {B w1 : World} {E : List Nat} {L : List Ent} {g c ty m : Nat} {xs : List (BitVec 8)} {junk : List Value} (hw : Hp B E L w1) (hm : (⟨g, ty, xs.map U8 ++ junk⟩ : Ent) ∈ L) (hl : xs.length = m) (hc : (xs.map U8 ++ junk).length = c) (hx : m ≤ 9223372036854775807) : Bytes w1 (some ⟨g, 0, Option.none⟩) m c xs :=
  ⟨(RdP.headL hm).now hw, hl, by rw [← hc, List.length_append, List.length_map]; omega, hx, fun h => by cases h⟩
theorem list_u8 : ∀ (cs : List Value), (∀ (i : Nat) (c : Value), cs[i]? = some c → ∃ X : BitVec 8, c = U8 X) → ∃ xs : List (BitVec 8), cs = xs.map U8
  | [], _ => ⟨[], rfl⟩
  | c :: cs, h => by
    obtain ⟨X, rfl⟩ := h 0 c rfl
    obtain ⟨xs, rfl⟩ := list_u8 cs fun i c hc => h (i + 1) c hc
    exact ⟨X :: xs, rfl⟩
/-- An array of bytes that came in. -/
theorem open_bytesArr {H : Type} {enc : TypeId × Value → H} {P : Program} {W : World} {base b0 : Nat} {sp : Nat → Bool} {held : Bool} {r : Reach} {t e : TypeId} {n : Nat} {v : Value} {d : DataW H} {ps : List MemPlace}
    (ht : P.underlying t = some (.array n e)) (he : P.underlying e = some (.int .u8)) (hc : P.cellsOf e = 1) (hct : P.cellsOf t = n) (hv : Value.okWide P W r b0 t v) (hd : DataW.Trod enc P W base sp held t v d ps) :
    ∃ xs : List (BitVec 8), xs.length = n ∧ v = .agg (xs.map U8).toArray := by
  simp only [Value.okWide, ht] at hv
  obtain ⟨cs, rfl, hs, _⟩ := hv
  obtain ⟨fuel, hf⟩ := hd
  have hf' : DataW.trod enc P W base sp held fuel t cs.toList = some (d, ps) := hf
  obtain ⟨ys, m, rfl, hx, hl, hyl, hall⟩ := DataW.trod_array ht hf'
  rw [hc] at hall
  have hn : ∀ i, i < n → ∃ c, cs.toList[i]? = some c ∧ ∃ X : BitVec 8, c = U8 X := fun i hi => by
    have h1 := hall i hi
    rw [List.getElem?_eq_getElem (by omega)] at h1
    obtain ⟨a, ea, _, wa⟩ := DataW.trod_int he h1
    obtain ⟨X, rfl⟩ := wf8 wa
    have h2 : cs.toList[i]? = some (U8 X) := by
      have := congrArg (fun l : List Value => l[0]?) ea
      simpa [List.getElem?_take, List.getElem?_drop] using this
    exact ⟨_, h2, X, rfl⟩
  obtain ⟨xs, hxs⟩ := list_u8 cs.toList fun i c hi => by
    have hlt : i < cs.toList.length := (List.getElem?_eq_some_iff.1 hi).1
    obtain ⟨c', h1, h2⟩ := hn i (by omega)
    rw [hi] at h1
    cases h1
    exact h2
  exact ⟨xs, by rw [← hct, ← hl, hxs, List.length_map], by rw [← hxs]⟩
end Go.Sym
