/-
  Rules of the walk, on: shifts of natural numbers, a slice that came in or lies in its own block.
-/
import Derived.Test.YtgkndcincgpmdaaSymJ
import Derived.Test.YtgkndcincgpmdaaPlainRef3
import Derived.Test.YtgkndcincgpmdaaFrame
namespace Go.Sym
open Plain
section
variable {P : Program} {n : Nat} {e : Env} {B : World} {E : List Nat} {L L' : List Ent} {ops : Array Oper} {Q : Exit → Act → World → Prop} {rest : List Oper} {K : Act → World → Prop}
namespace V
theorem shrN {t yt ty : TypeId} {x y : Operand} {a s : Nat} {k : IntKind} (hx : ev e x = some (.int .i64 (a : Int))) (hy : ev e y = some (.int k (s : Int))) (hs : s ≤ 64) : VOp P n e B E L (.binOp .shr t x y yt) ty (NV (a / 2 ^ s)) :=
  int2 hx hy fun w => by
    have h1 : ¬ (s : Int) < 0 := by omega
    have h2 : Min.min s 64 = s := Nat.min_eq_left hs
    have h3 : (a : Int).fdiv (2 ^ s) = ((a / 2 ^ s : Nat) : Int) := by
      rw [Int.fdiv_eq_ediv_of_nonneg _ (by exact Int.le_of_lt (Int.pow_pos (by decide))), Int.natCast_ediv]
      simp
    simp [binOp, Op.shift, h1, IntKind.bits, h2, h3]
theorem shlN {t yt ty : TypeId} {x y : Operand} {a s : Nat} {k : IntKind} (hx : ev e x = some (.int .i64 (a : Int))) (hy : ev e y = some (.int k (s : Int))) (hs : s ≤ 64) (hb : a * 2 ^ s ≤ 9223372036854775807) : VOp P n e B E L (.binOp .shl t x y yt) ty (NV (a * 2 ^ s)) :=
  int2 hx hy fun w => by
    have h1 : ¬ (s : Int) < 0 := by omega
    have h2 : Min.min s 64 = s := Nat.min_eq_left hs
    have h3 : IntKind.i64.wrap ((a : Int) * 2 ^ s) = ((a * 2 ^ s : Nat) : Int) := by
      have : (a : Int) * 2 ^ s = ((a * 2 ^ s : Nat) : Int) := by rw [Int.natCast_mul, Int.natCast_pow]; rfl
      rw [this]
      generalize a * 2 ^ s = z at hb
      exact wrap_id (by omega) (by omega)
    simp [binOp, Op.shift, h1, IntKind.bits, h2, h3]
theorem convN_8 {s d ty : TypeId} {x : Operand} {a : Nat} {ds : TypeDesc} (hs : ∀ w, (underlying s).run P w = .ok ds w) (hd : ∀ w, (underlying d).run P w = .ok (.int .u8) w) (hx : ev e x = some (.int .i64 (a : Int))) :
    VOp P n e B E L (.convert s d x) ty (U8 (BitVec.ofNat 8 a)) := by
  have := convI_8 (P := P) (n := n) (B := B) (E := E) (L := L) (ty := ty) hs hd hx
  rwa [BitVec.ofInt_natCast] at this
theorem shl1 {t yt ty : TypeId} {x y : Operand} {s : Nat} {k : IntKind} (hx : ev e x = some (.int .i64 1)) (hy : ev e y = some (.int k (s : Int))) (hs : s < 63) : VOp P n e B E L (.binOp .shl t x y yt) ty (NV (2 ^ s)) := by
  have := shlN (P := P) (n := n) (B := B) (E := E) (L := L) (t := t) (yt := yt) (ty := ty) (a := 1) hx hy (by omega) (by
    have : 2 ^ s ≤ 2 ^ 62 := Nat.pow_le_pow_right (by decide) (by omega)
    omega)
  rwa [Nat.one_mul] at this
end V
/-! ### Rows of numbers that came in -/
structure Nums (w : World) (p : Option Addr) (m c : Nat) (xs : List Nat) : Prop where
  rd : RdB w p (xs.map NV)
  length : xs.length = m
  le : m ≤ c
theorem Nums.old {w : World} {p : Option Addr} {m c : Nat} {xs : List Nat} {L : List Ent} (h : Nums w p m c xs) : RdP w [] L p (xs.map NV) := RdP.old h.rd (fun _ _ => by simp)
theorem Nums.now {w w1 : World} {p : Option Addr} {m c : Nat} {xs : List Nat} {L : List Ent} (h : Nums w p m c xs) (hw : Hp w [] L w1) : Nums w1 p m c xs := ⟨h.old.now hw, h.length, h.le⟩
theorem Nums.some {w : World} {p : Option Addr} {m c : Nat} {xs : List Nat} (h : Nums w p m c xs) (hm : 0 < m) : p.isSome = true := by
  have := h.length
  exact (h.rd 0 _ (List.getElem?_eq_getElem (by rw [List.length_map]; omega))).1
/-- Numbers at the head of a block of ours. -/
theorem Nums.own {w1 : World} {g c ty : Nat} {m : Nat} {xs : List Nat} {junk : List Value} (hw : Hp B E L w1) (hm : (⟨g, ty, xs.map NV ++ junk⟩ : Ent) ∈ L) (hl : xs.length = m) (hc : (xs.map NV ++ junk).length = c) : Nums w1 (.some ⟨g, 0, none⟩) m c xs :=
  ⟨(RdP.headL hm).now hw, hl, by rw [← hc, List.length_append, List.length_map]; omega⟩
theorem Nums.nil {w : World} : Nums w none 0 0 [] := ⟨fun j u h => by simp at h, rfl, Nat.le_refl _⟩
/-- A new row of the digits of N. -/
def NumOut (ti : Nat) (w : World) (N : Nat) (r : Ending) (w' : World) : Prop :=
  ∃ x : Nat × Nat × List Value, r = .returned (.slice (some ⟨x.1, 0, none⟩) (dig N).length x.2.1) ∧ Hp w [] [⟨x.1, ti, (dig N).map NV ++ x.2.2⟩] w' ∧ ((dig N).map NV ++ x.2.2).length = x.2.1
def NumOut2 (ti : Nat) (w : World) (N M : Nat) (r : Ending) (w' : World) : Prop :=
  ∃ x : (Nat × Nat × List Value) × (Nat × Nat × List Value), r = .returned (.tuple #[.slice (some ⟨x.1.1, 0, none⟩) (dig N).length x.1.2.1, .slice (some ⟨x.2.1, 0, none⟩) (dig M).length x.2.2.1]) ∧
    Hp w [] [⟨x.2.1, ti, (dig M).map NV ++ x.2.2.2⟩, ⟨x.1.1, ti, (dig N).map NV ++ x.1.2.2⟩] w' ∧ ((dig N).map NV ++ x.1.2.2).length = x.1.2.1 ∧ ((dig M).map NV ++ x.2.2.2).length = x.2.2.1
/-- A slice that came in, or lies in its own block. -/
def srcV (p : Option Addr) (c : Nat) : Row → Nat → Value
  | none, m => .slice p m c
  | some (g, c', _), m => .slice (some ⟨g, 0, none⟩) m c'
theorem src_nums {w : World} {p : Option Addr} {m c : Nat} {xs : List Nat} (hx : Nums w p m c xs) (ti : Nat) (o : Row) (ys : List Nat) (h0 : o = none → ys = xs) (h1 : ∀ g c' junk, o = some (g, c', junk) → (ys.map NV ++ junk).length = c') :
    ∃ p' c', srcV p c o ys.length = .slice p' ys.length c' ∧ ∀ L w1, (∀ x ∈ o.blk ti (ys.map NV), x ∈ L) → Hp w [] L w1 → Nums w1 p' ys.length c' ys := by
  match o, h0, h1 with
  | none, h0, _ =>
    obtain rfl := h0 rfl
    have hl := hx.length
    exact ⟨p, c, rfl, fun L w1 _ hw => by rw [hl]; exact hx.now hw⟩
  | some (g, c', junk), _, h1 => exact ⟨some ⟨g, 0, none⟩, c', rfl, fun L w1 hm hw => Nums.own hw (hm _ (.head _)) rfl (h1 g c' junk rfl)⟩
namespace W
/-- A call that leaves a new row of digits. -/
theorem callNum {ti N : Nat} {f : FuncId} {args : Array Operand} {ats : Array TypeId} {ty : TypeId} {d : Nat} {vs : List Value} (hx : ∀ a, EnvOK n e a → args.map a.eval = vs.toArray)
    (hf : ∀ xs w, (callFunc f xs).run P w = .ok (.enter f xs) w) (hd : Nat.blt d n = true)
    (hc : ∀ w, Hp B E L w → Calls P f vs.toArray w (NumOut ti w N))
    (h : ∀ g c junk, ((dig N).map NV ++ junk).length = c → Tr n ((d, .slice (some ⟨g, 0, none⟩) (dig N).length c) :: e) B E (⟨g, ti, (dig N).map NV ++ junk⟩ :: L) K) : WOp P n e B E L Q (some d) (.call ⟨.value (.func f), args, ats⟩) ty K :=
  W.call (val := fun x : Nat × Nat × List Value => .slice (some ⟨x.1, 0, none⟩) (dig N).length x.2.1) (N := fun x => [⟨x.1, ti, (dig N).map NV ++ x.2.2⟩]) (Px := fun x => ((dig N).map NV ++ x.2.2).length = x.2.1) hx hf hd hc fun x hx => h _ _ _ hx
/-- A call that leaves two new rows of digits. -/
theorem callNum2 {ti N M : Nat} {f : FuncId} {args : Array Operand} {ats : Array TypeId} {ty : TypeId} {d : Nat} {vs : List Value} (hx : ∀ a, EnvOK n e a → args.map a.eval = vs.toArray)
    (hf : ∀ xs w, (callFunc f xs).run P w = .ok (.enter f xs) w) (hd : Nat.blt d n = true)
    (hc : ∀ w, Hp B E L w → Calls P f vs.toArray w (NumOut2 ti w N M))
    (h : ∀ g c junk g2 c2 junk2, ((dig N).map NV ++ junk).length = c → ((dig M).map NV ++ junk2).length = c2 →
      Tr n ((d, .tuple #[.slice (some ⟨g, 0, none⟩) (dig N).length c, .slice (some ⟨g2, 0, none⟩) (dig M).length c2]) :: e) B E (⟨g2, ti, (dig M).map NV ++ junk2⟩ :: ⟨g, ti, (dig N).map NV ++ junk⟩ :: L) K) : WOp P n e B E L Q (some d) (.call ⟨.value (.func f), args, ats⟩) ty K :=
  W.call (val := fun x : (Nat × Nat × List Value) × (Nat × Nat × List Value) => .tuple #[.slice (some ⟨x.1.1, 0, none⟩) (dig N).length x.1.2.1, .slice (some ⟨x.2.1, 0, none⟩) (dig M).length x.2.2.1])
    (N := fun x => [⟨x.2.1, ti, (dig M).map NV ++ x.2.2.2⟩, ⟨x.1.1, ti, (dig N).map NV ++ x.1.2.2⟩]) (Px := fun x => ((dig N).map NV ++ x.1.2.2).length = x.1.2.1 ∧ ((dig M).map NV ++ x.2.2.2).length = x.2.2.1) hx hf hd hc fun x hx => h _ _ _ _ _ _ hx.1 hx.2
/-- A call that leaves a new row of digits, or hands back the row that it was given. -/
theorem callMod {ti N c0 g0 : Nat} {xs : List Nat} {junk0 : List Value} {R : List Ent} {f : FuncId} {args : Array Operand} {ats : Array TypeId} {ty : TypeId} {d : Nat} {vs : List Value} (hx : ∀ a, EnvOK n e a → args.map a.eval = vs.toArray)
    (hf : ∀ xs w, (callFunc f xs).run P w = .ok (.enter f xs) w) (hd : Nat.blt d n = true) (hL : L.Perm (⟨g0, ti, xs.map NV ++ junk0⟩ :: R)) (hc0 : (xs.map NV ++ junk0).length = c0)
    (hc : ∀ w, Hp B E L w → Calls P f vs.toArray w fun r w' => NumOut ti w N r w' ∨ (r = .returned (.slice (some ⟨g0, 0, none⟩) (dig N).length c0) ∧ xs = dig N ∧ Hp w [] [] w'))
    (h : ∀ g c junk, ((dig N).map NV ++ junk).length = c → Tr n ((d, .slice (some ⟨g, 0, none⟩) (dig N).length c) :: e) B E (⟨g, ti, (dig N).map NV ++ junk⟩ :: R) K) : WOp P n e B E L Q (some d) (.call ⟨.value (.func f), args, ats⟩) ty K :=
  W.callQ hx hf hd fun w hw => (hc w hw).mono fun r w' hr => by
    rcases hr with ⟨x, h1, h2, h3⟩ | ⟨h1, h2, h3⟩
    · exact ⟨_, _, h1, ((hw.call h2).perm (List.Perm.cons _ hL)).sub (.cons_cons _ (.cons _ (List.Sublist.refl _))), h _ _ _ h3⟩
    · subst h2
      exact ⟨_, _, h1, (by simpa using (hw.call h3).perm hL), h _ _ _ hc0⟩
end W
end
end Go.Sym
