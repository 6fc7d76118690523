/-
  The ladder over numbers modulo P.
-/
import Derived.Test.YtgkndcincgpmdaaPlainElemE
import Derived.Test.YtgkndcincgpmdaaPlainCurve
namespace Plain
open Go Go.Sym
def fadd (a b : Nat) : Nat := (a + b) % FP
def fsub (a b : Nat) : Nat := (a + (FP - b)) % FP
def fmul (a b : Nat) : Nat := a * b % FP
structure NP where
  x : Nat
  z : Nat
def dblN (p : NP) : NP :=
  let a := fadd p.x p.z
  let b := fsub p.x p.z
  let aa := fmul a a
  let bb := fmul b b
  let e := fsub aa bb
  ⟨fmul aa bb, fmul e (fadd aa (fmul e 121665))⟩
def addN (u : Nat) (p q : NP) : NP :=
  let da := fmul (fsub q.x q.z) (fadd p.x p.z)
  let cb := fmul (fadd q.x q.z) (fsub p.x p.z)
  let s := fadd da cb
  let d := fsub da cb
  ⟨fmul s s, fmul (fmul d d) u⟩
/-- One step: of a bit that is 1 the points stand the other way round. -/
def stepN (u : Nat) (b : Bool) (s : NP × NP) : NP × NP := if b then (addN u s.2 s.1, dblN s.2) else (dblN s.1, addN u s.1 s.2)
def ladN (key : List (BitVec 8)) (u : Nat) : Nat → NP × NP
  | 0 => (⟨1, 0⟩, ⟨u, 1⟩)
  | j + 1 => stepN u (bitK key (254 - j)) (ladN key u j)
/-- The number of a multiple. -/
def multN (key : List (BitVec 8)) (u : Nat) : Nat := fmul (ladN key u 255).1.x ((ladN key u 255).1.z ^ FE % FP)
def PtEl (p : Pt) (n : NP) : Prop := El p.x n.x ∧ El p.z n.z
theorem PtEl.pair {x z : L64} {X Z : Nat} (hx : El x X) (hz : El z Z) : PtEl ⟨x, z⟩ ⟨X, Z⟩ := ⟨hx, hz⟩
theorem eadd {l m : L64} {v u : Nat} (hl : El l v) (hm : El m u) : El (addL l m) (fadd v u) := add_el hl hm
theorem esub {l m : L64} {v u : Nat} (hl : El l v) (hm : El m u) : El (subL l m) (fsub v u) := sub_el hl hm
theorem emul {l m : L64} {v u : Nat} (hl : El l v) (hm : El m u) : El (mulL l m) (fmul v u) := mul_el hl hm
theorem esmall : El (smallL 121665#32) 121665 := small_el 121665#32
theorem dbl_el {p : Pt} {n : NP} (h : PtEl p n) : PtEl (dblP p) (dblN n) := by
  obtain ⟨hx, hz⟩ := h
  have ha := eadd hx hz
  have hb := esub hx hz
  have haa := emul ha ha
  have hbb := emul hb hb
  have he := esub haa hbb
  have hm := emul he (eadd haa (emul he esmall))
  simp only [dblP, dblN]
  exact PtEl.pair (emul haa hbb) hm
theorem addN_el {u : L64} {U : Nat} {p q : Pt} {n m : NP} (hu : El u U) (hp : PtEl p n) (hq : PtEl q m) : PtEl (addP u p q) (addN U n m) := by
  obtain ⟨hx, hz⟩ := hp
  obtain ⟨hqx, hqz⟩ := hq
  have hda := emul (esub hqx hqz) (eadd hx hz)
  have hcb := emul (eadd hqx hqz) (esub hx hz)
  have hs := eadd hda hcb
  have hd := esub hda hcb
  simp only [addP, addN, daL, cbL]
  exact PtEl.pair (emul hs hs) (emul (emul hd hd) hu)
theorem stepP_false (u : L64) (p q : Pt) : stepP u false (p, q) = (dblP p, addP u p q) := by
  cases p; cases q
  simp only [stepP, swapP, Bool.false_eq_true, if_false]
theorem stepP_true (u : L64) (p q : Pt) : stepP u true (p, q) = (addP u q p, dblP q) := by
  cases p; cases q
  simp only [stepP, swapP, if_true]
theorem step_el {u : L64} {U : Nat} {s : Pt × Pt} {n : NP × NP} (b : Bool) (hu : El u U) (h1 : PtEl s.1 n.1) (h2 : PtEl s.2 n.2) : PtEl (stepP u b s).1 (stepN U b n).1 ∧ PtEl (stepP u b s).2 (stepN U b n).2 := by
  obtain ⟨p, q⟩ := s
  have d1 := dbl_el h1
  have d2 := dbl_el h2
  have a1 := addN_el hu h1 h2
  have a2 := addN_el hu h2 h1
  cases b
  · rw [stepP_false, stepN, if_neg (by decide)]
    exact ⟨d1, a1⟩
  · rw [stepP_true, stepN, if_pos rfl]
    exact ⟨a2, d2⟩
theorem lad_el (key : List (BitVec 8)) {u : L64} {U : Nat} (hu : El u U) (j : Nat) : PtEl (ladP key u j).1 (ladN key U j).1 ∧ PtEl (ladP key u j).2 (ladN key U j).2 := by
  induction j with
  | zero =>
    have h1 := small_el 1#32
    have h0 : El (List.replicate 5 0#64) 0 := small_el 0#32
    exact ⟨⟨h1, h0⟩, ⟨hu, h1⟩⟩
  | succ j ih =>
    rw [ladP, ladN]
    exact step_el _ hu ih.1 ih.2
/-- The number of a key's u. -/
def uN (u : List (BitVec 8)) : Nat := leN u % 57896044618658097711785492504343953926634992332820282019728792003956564819968 % FP
/-- A multiple, as bytes of a number. -/
theorem multL_law (k u : List (BitVec 8)) (hu : u.length = 32) : multL k u = leB (multN (clampL k) (uN u)) 32 := by
  have h := lad_el (clampL k) (from_el u hu) 255
  have hf := emul h.1.1 (inv_el h.1.2)
  rw [multL]
  exact bytes_eq hf
end Plain
