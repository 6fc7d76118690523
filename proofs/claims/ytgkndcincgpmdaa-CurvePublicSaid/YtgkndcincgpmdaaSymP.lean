/-
  Rows of digits by handles.
-/
import Derived.Test.YtgkndcincgpmdaaSymK
namespace Go.Sym
open Plain
/-- A row of digits in a block of its own. -/
structure Rw where
  g : Nat
  c : Nat
  junk : List Value
abbrev Rw.v (r : Rw) (N : Nat) : Value := .slice (some ⟨r.g, 0, none⟩) (dig N).length r.c
abbrev Rw.e (r : Rw) (ti N : Nat) : Ent := ⟨r.g, ti, (dig N).map NV ++ r.junk⟩
abbrev Rw.ok (r : Rw) (N : Nat) : Prop := ((dig N).map NV ++ r.junk).length = r.c
/-- Among some blocks lies a row of digits. -/
def RowIn (w : World) (R : List Ent) (p : Option Addr) (c N : Nat) : Prop := ∀ L w1, (∀ y ∈ R, y ∈ L) → Hp w [] L w1 → Nums w1 p (dig N).length c (dig N)
theorem RowIn.row {w : World} {R : List Ent} {r : Rw} {ti N : Nat} (hr : r.e ti N ∈ R) (hok : r.ok N) : RowIn w R (some ⟨r.g, 0, none⟩) r.c N := fun _ _ h hw => Nums.own hw (h _ hr) rfl hok
theorem RowIn.own {w : World} {R : List Ent} {g c ti N : Nat} {junk : List Value} (hr : (⟨g, ti, (dig N).map NV ++ junk⟩ : Ent) ∈ R) (hok : ((dig N).map NV ++ junk).length = c) : RowIn w R (some ⟨g, 0, none⟩) c N := fun _ _ h hw => Nums.own hw (h _ hr) rfl hok
theorem RowIn.mono {w : World} {R R' : List Ent} {p : Option Addr} {c N : Nat} (h : RowIn w R p c N) (hs : ∀ y ∈ R, y ∈ R') : RowIn w R' p c N := fun L w1 h1 hw => h L w1 (fun y hy => h1 y (hs y hy)) hw
/-- The state of a ladder over rows of digits. -/
structure MS where
  k : Nat
  R : List Ent
  p1 : Option Addr
  c1 : Nat
  p2 : Option Addr
  c2 : Nat
  p3 : Option Addr
  c3 : Nat
  p4 : Option Addr
  c4 : Nat
theorem perm42 (a b c d x y : Ent) (R : List Ent) : (a :: b :: c :: d :: x :: y :: R).Perm (x :: y :: a :: b :: c :: d :: R) :=
  List.Perm.append_right R (List.perm_append_comm (l₁ := [a, b, c, d]) (l₂ := [x, y]))
end Go.Sym
