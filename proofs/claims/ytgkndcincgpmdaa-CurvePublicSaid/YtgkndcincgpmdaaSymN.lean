/-
  A field of a struct's value.
-/
import Derived.Test.YtgkndcincgpmdaaSymM
namespace Go.Sym
open Go.Instr
variable {P : Program} {n : Nat} {e : Env} {B : World} {E : List Nat} {L L' : List Ent} {ops : Array Oper} {Q : Exit → Act → World → Prop} {K : Act → World → Prop}
namespace V
theorem fieldN {t ty : TypeId} {x : Operand} {f sz : Nat} {fs : Array Field} {fd : Field} {cs pre vs post : List Value} (ht : ∀ w, (underlying t).run P w = .ok (.struct fs) w) (hf : fs[f]? = some fd) (hx : ev e x = some (.agg cs.toArray))
    (hs : ∀ w, (sizeOf fd.type).run P w = .ok sz w) (ha : ∀ w, (isAgg fd.type).run P w = .ok true w) (hc : cs = pre ++ vs ++ post) (hp : pre.length = fd.offset) (hv : vs.length = sz) :
    VOp P n e B E L (.field t x f) ty (.agg vs.toArray) := fun a w _ _ _ _ he hw => by
  have h1 : (cs.drop fd.offset).take sz = vs := by
    rw [hc, List.append_assoc, List.drop_append_of_le_length (by omega), List.drop_of_length_le (by omega), List.nil_append, List.take_append_of_le_length (by omega), List.take_of_length_le (by omega)]
  simp [execOp, he.eval hx, Instr.field, asAgg, ht, hf, hs, part, ha]
  exact h1
theorem eqU64 {op : Op} {ty : TypeId} {a b : BitVec 64} (h : a = b) (v : VOp P n e B E L op ty (U64 a)) : VOp P n e B E L op ty (U64 b) := h ▸ v
end V
end Go.Sym
