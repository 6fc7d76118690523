/-
  Package curve, in rows of limbs; a part of a block.
-/
import Derived.Test.YtgkndcincgpmdaaPlainElem
namespace Go.Sym
variable {P : Program} {n : Nat} {e : Env} {B : World} {E : List Nat} {L L' : List Ent} {ops : Array Oper} {Q : Exit → Act → World → Prop} {K : Act → World → Prop}
/-- A store of some cells in a block, by what stands ahead of and behind them. -/
theorem W.storeO {t ty tb : TypeId} {x y : Operand} {g o sz : Nat} {cs cs' pre old vs post : List Value} (hs : ∀ w, (sizeOf t).run P w = .ok sz w) (hx : ev e x = some (.pointer (some ⟨g, o, none⟩))) (hy : ev e y = some (.agg vs.toArray))
    (he : cs = pre ++ old ++ post) (he' : cs' = pre ++ vs ++ post) (hp : pre.length = o) (ho : old.length = sz) (hv : vs.length = sz) (h1 : ∀ u ∈ vs, u.oneCell' = true) (hu : Upd ⟨g, tb, cs⟩ ⟨g, tb, cs'⟩ L L')
    (h : Tr n e B E L' K) : WOp P n e B E L Q none (.store t x y) ty K := by
  have hcs : cs.take o ++ vs ++ cs.drop (o + vs.length) = cs' := by
    have t1 : (pre ++ old ++ post).take o = pre := by rw [List.append_assoc]; exact List.take_left' hp
    have t2 : (pre ++ old ++ post).drop (o + sz) = post := List.drop_left' (by rw [List.length_append]; omega)
    rw [hv, he, t1, t2, he']
  exact W.storeCells (vs := vs) (cs := cs) (tb := tb) hs hx hy rfl hv h1 (by rw [hcs]; exact hu) (by rw [he, List.length_append, List.length_append]; omega) h
theorem one2 (l m : List (BitVec 64)) : ∀ u ∈ l.map U64 ++ m.map U64, u.oneCell' = true := by
  intro u hu
  rcases List.mem_append.1 hu with h | h
  · exact one64 _ u h
  · exact one64 _ u h
theorem getB (l : List (BitVec 8)) (j : Nat) (h : j < l.length) : (l.map U8)[j]? = some (U8 (l.getD j 0#8)) := by
  rw [List.getElem?_map, List.getD_eq_getElem?_getD, List.getElem?_eq_getElem h]; rfl
end Go.Sym
namespace Plain
open Go Go.Sym
abbrev L64 := List (BitVec 64)
structure Pt where
  x : L64
  z : L64
def Pt.ok (p : Pt) : Prop := p.x.length = 5 ∧ p.z.length = 5
def Pt.cs (p : Pt) : List Value := p.x.map U64 ++ p.z.map U64
theorem Pt.one (p : Pt) : ∀ u ∈ p.cs, u.oneCell' = true := by
  intro u hu
  rcases List.mem_append.1 hu with h | h
  · exact one64 _ u h
  · exact one64 _ u h
theorem Pt.len {p : Pt} (h : p.ok) : p.cs.length = 10 := by rw [Pt.cs, List.length_append, List.length_map, List.length_map, h.1, h.2]
def swapP (b : Bool) (p q : Pt) : Pt × Pt := (⟨if b then q.x else p.x, if b then q.z else p.z⟩, ⟨if b then p.x else q.x, if b then p.z else q.z⟩)
theorem swapP_ok (b : Bool) {p q : Pt} (hp : p.ok) (hq : q.ok) : (swapP b p q).1.ok ∧ (swapP b p q).2.ok := by
  cases b
  · exact ⟨hp, hq⟩
  · exact ⟨hq, hp⟩
def dblP (p : Pt) : Pt :=
  ⟨mulL (mulL (addL p.x p.z) (addL p.x p.z)) (mulL (subL p.x p.z) (subL p.x p.z)),
   mulL (subL (mulL (addL p.x p.z) (addL p.x p.z)) (mulL (subL p.x p.z) (subL p.x p.z)))
     (addL (mulL (addL p.x p.z) (addL p.x p.z)) (mulL (subL (mulL (addL p.x p.z) (addL p.x p.z)) (mulL (subL p.x p.z) (subL p.x p.z))) (smallL 121665#32)))⟩
def daL (p q : Pt) : L64 := mulL (subL q.x q.z) (addL p.x p.z)
def cbL (p q : Pt) : L64 := mulL (addL q.x q.z) (subL p.x p.z)
def addP (u : L64) (p q : Pt) : Pt := ⟨mulL (addL (daL p q) (cbL p q)) (addL (daL p q) (cbL p q)), mulL (mulL (subL (daL p q) (cbL p q)) (subL (daL p q) (cbL p q))) u⟩
theorem addL_len (l m : L64) (h : l.length = 5) : (addL l m).length = 5 := by rw [addL, carriedL_len, addTo_len, h]
theorem subL_len (l m : L64) (h : l.length = 5) : (subL l m).length = 5 := by rw [subL, carriedL_len, subTo_len, h]
theorem dblP_ok (p : Pt) : (dblP p).ok := by
  simp only [Pt.ok, dblP, mulL_len, and_self]
theorem addP_ok (u : L64) (p q : Pt) : (addP u p q).ok := by
  simp only [Pt.ok, addP, mulL_len, and_self]
def clampL (key : List (BitVec 8)) : List (BitVec 8) := (key.set 0 (key.getD 0 0#8 &&& ~~~7#8)).set 31 (((key.set 0 (key.getD 0 0#8 &&& ~~~7#8)).getD 31 0#8 &&& ~~~128#8) ||| 64#8)
theorem clampL_len (key : List (BitVec 8)) : (clampL key).length = key.length := by rw [clampL, List.length_set, List.length_set]
def bitK (key : List (BitVec 8)) (i : Nat) : Bool := decide ((key.getD (i / 8) 0#8 >>> (i % 8)) &&& 1#8 = 1#8)
def stepP (u : L64) (b : Bool) (s : Pt × Pt) : Pt × Pt := swapP b (dblP (swapP b s.1 s.2).1) (addP u (swapP b s.1 s.2).1 (swapP b s.1 s.2).2)
/-- The ladder: n steps are still to be done. -/
def ladP (key : List (BitVec 8)) (u : L64) : Nat → Pt × Pt
  | 0 => (⟨smallL 1#32, List.replicate 5 0#64⟩, ⟨u, smallL 1#32⟩)
  | j + 1 => stepP u (bitK key (254 - j)) (ladP key u j)
theorem ladP_ok (key : List (BitVec 8)) (u : L64) (hu : u.length = 5) (j : Nat) : (ladP key u j).1.ok ∧ (ladP key u j).2.ok := by
  induction j with
  | zero => exact ⟨⟨rfl, rfl⟩, ⟨hu, rfl⟩⟩
  | succ j ih => exact swapP_ok _ (dblP_ok _) (addP_ok _ _ _)
def multL (k u : List (BitVec 8)) : List (BitVec 8) := bytesL (mulL (ladP (clampL k) (fromL u) 255).1.x (invL (ladP (clampL k) (fromL u) 255).1.z))
theorem multL_len (k u : List (BitVec 8)) : (multL k u).length = 32 := bytesL_len _
def nineK : List (BitVec 8) := 9#8 :: List.replicate 31 0#8
def zeroK : List (BitVec 8) := List.replicate 32 0#8
end Plain
