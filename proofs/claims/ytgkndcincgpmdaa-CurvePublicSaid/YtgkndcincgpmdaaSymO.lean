/-
  Plans over a family of classes: what a block of ours has in it need not be told.
-/
import Derived.Test.YtgkndcincgpmdaaSymN
namespace Go.Sym
variable {P : Program} {n : Nat} {e : Env} {B : World} {E : List Nat} {L L' : List Ent} {ops : Array Oper} {Q : Exit → Act → World → Prop} {T : List Nat} {i j : Nat} {p q : Plan} {dst : Option Tmp} {d : Nat} {op : Op} {ty : TypeId} {pos : String} {af : Array Edge} {v : Value}
/-- One of the family's classes. -/
def Fam {ι : Type} (B : World) (E : List Nat) (F : ι → List Ent) (x : World) : Prop := ∃ i, Hp B E (F i) x
theorem Fam.closed {ι : Type} {F : ι → List Ent} : Closed (Fam B E F) := fun x y ⟨i, hx⟩ h => ⟨i, Hp.closed x y hx h⟩
def TrF (P : Program) (ops : Array Oper) (Q : Exit → Act → World → Prop) (n : Nat) (e : Env) (B : World) (E : List Nat) {ι : Type} (F : ι → List Ent) (T : List Nat) (plan : Plan) : Prop := ∀ a, EnvOK n e a → wpPlan P ops Q T plan (Fam B E F) a
/-- The way on behind a hard operation, from a family. -/
abbrev fK (P : Program) (ops : Array Oper) (Q : Exit → Act → World → Prop) (T : List Nat) (i : Nat) (p : Plan) (B : World) (E : List Nat) {ι : Type} (F : ι → List Ent) : Act → World → Prop := hardK (wpPlan P ops Q T p) T i (Fam B E F)
section
variable {ι κ : Type} {F : ι → List Ent} {G : κ → List Ent}
theorem TrF.hard (ho : ops[i]? = some ⟨dst, op, ty, pos, af, none⟩) (h : ∀ k, WOp P n e B E (F k) Q dst op ty (fK P ops Q T i p B E F)) : TrF P ops Q n e B E F T (.hard i p) := fun _ he _ hw => by
  obtain ⟨k, hw⟩ := hw
  exact hard_op0 ho (h k) he hw
/-- From a class to a family. -/
theorem Tr.toF (k : κ) (hs : ∀ k, L.Sublist (G k)) (h : TrF P ops Q n e B E G T p) : Tr n e B E (G k) (pK P ops Q T i p B E L) := fun a _ he hw =>
  ⟨Fam B E G, ⟨k, hw⟩, ⟨Fam.closed, fun _ _ ⟨k', hx⟩ => hx.sub (hs k')⟩, h a he⟩
/-- From a family to another one. -/
theorem Tr.onF (k : κ) (hs : ∀ k, ∃ j, (F j).Sublist (G k)) (h : TrF P ops Q n e B E G T p) : Tr n e B E (G k) (fK P ops Q T i p B E F) := fun a _ he hw =>
  ⟨Fam B E G, ⟨k, hw⟩, ⟨Fam.closed, fun _ _ ⟨k', hx⟩ => by obtain ⟨j, hj⟩ := hs k'; exact ⟨j, hx.sub hj⟩⟩, h a he⟩
/-- From a family to one of its classes. -/
theorem Tr.unF (j : ι) (hs : (F j).Sublist L) (h : TrP P ops Q n e B E L T p) : Tr n e B E L (fK P ops Q T i p B E F) := fun a _ he hw =>
  ⟨Hp B E L, hw, ⟨Hp.closed, fun _ _ hx => ⟨j, hx.sub hs⟩⟩, h a he⟩
end
end Go.Sym
