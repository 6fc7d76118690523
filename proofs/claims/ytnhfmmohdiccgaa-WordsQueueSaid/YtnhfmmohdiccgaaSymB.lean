/-
  A walk over states that are told by two lists: what the temporaries hold, and what the blocks at hand hold. Rules for the operations that leave the world alone.
-/
import Derived.Test.YtnhfmmohdiccgaaSymA
import Derived.WalkKit
namespace Go.Sym

/-! ### What is told of a state -/
abbrev Env := List (Nat × Value)
def lk : Env → Nat → Option Value
  | [], _ => none
  | (k, v) :: r, i => match Nat.beq k i with
    | true => some v
    | false => lk r i
def ev (e : Env) : Operand → Option Value
  | .tmp t => lk e t
  | .const v => some v
  | .global g => some (.pointer (some ⟨g, 0, none⟩))
  | .func f => some (.func (.func f) #[] #[])

structure EnvOK (n : Nat) (e : Env) (a : Act) : Prop where
  size : a.tmps.size = n
  defers : a.defers = []
  has : ∀ i v, lk e i = some v → a.tmps[i]? = some v

theorem EnvOK.eval {n : Nat} {e : Env} {a : Act} {x : Operand} {v : Value} (h : EnvOK n e a) (hx : ev e x = some v) : a.eval x = v := by
  cases x with
  | tmp t =>
    have := h.has t v hx
    simp [Act.eval, this]
  | const c => simpa [ev, Act.eval] using hx
  | global g => simpa [ev, Act.eval] using hx
  | func f => simpa [ev, Act.eval] using hx

theorem EnvOK.put {n : Nat} {e : Env} {a : Act} {d : Nat} (h : EnvOK n e a) (hd : Nat.blt d n = true) (v : Value) : EnvOK n ((d, v) :: e) (a.put (some d) v) := by
  have hd' : d < a.tmps.size := by rw [h.size]; simpa [Nat.blt_eq] using hd
  refine ⟨by simp [Act.put, h.size], by simp [Act.put, h.defers], fun i u hu => ?_⟩
  simp only [lk] at hu
  split at hu
  · rename_i hb
    obtain rfl : d = i := Nat.eq_of_beq_eq_true hb
    cases hu
    simp [Act.put, hd']
  · rename_i hb
    have hne : d ≠ i := Nat.ne_of_beq_eq_false hb
    simp only [Act.put]
    rw [Array.getElem?_setIfInBounds_ne hne]
    exact h.has i u hu

theorem EnvOK.weak {n : Nat} {e e' : Env} {a : Act} (h : EnvOK n e a) (hs : ∀ i v, lk e' i = some v → lk e i = some v) : EnvOK n e' a :=
  ⟨h.size, h.defers, fun i v hv => h.has i v (hs i v hv)⟩

/-- A block at hand. -/
structure Ent where
  g : Nat
  ty : TypeId
  cells : List Value

/-- The world w, told from a world B that stood ahead of it: what stood in B is as it was but for the blocks E; the blocks L hold what is told. -/
structure Hp (B : World) (E : List Nat) (L : List Ent) (w : World) : Prop where
  os : w.os = B.os
  tape : w.tape = B.tape
  output : w.output = B.output
  size : B.heap.size ≤ w.heap.size
  old : ∀ k, k < B.heap.size → k ∉ E → w.heap[k]? = B.heap[k]?
  blk : ∀ x ∈ L, w.heap[x.g]? = some (.cells x.cells.toArray x.ty (0, 0)) ∧ (x.g ∈ E ∨ B.heap.size ≤ x.g)
  apart : (L.map (·.g)).Nodup

theorem Hp.refl (w : World) : Hp w [] [] w := ⟨rfl, rfl, rfl, Nat.le_refl _, (fun _ _ _ => rfl), (fun _ h => by cases h), List.nodup_nil⟩

theorem Hp.drawn {B : World} {E : List Nat} {L : List Ent} {w : World} (h : Hp B E L w) (n : Nat) : Hp B E L { w with drawn := n } := ⟨h.os, h.tape, h.output, h.size, h.old, h.blk, h.apart⟩

theorem Hp.lt {B : World} {E : List Nat} {L : List Ent} {w : World} (h : Hp B E L w) {x : Ent} (hx : x ∈ L) : x.g < w.heap.size := by
  have := (h.blk x hx).1
  exact (Array.getElem?_eq_some_iff.1 this).1

theorem Hp.tail {B : World} {E : List Nat} {L : List Ent} {x : Ent} {w : World} (h : Hp B E (x :: L) w) : Hp B E L w :=
  ⟨h.os, h.tape, h.output, h.size, h.old, fun y hy => h.blk y (.tail _ hy), (List.nodup_cons.1 h.apart).2⟩

/-- Fewer blocks are told. -/
theorem Hp.sub {B : World} {E : List Nat} {L L' : List Ent} {w : World} (h : Hp B E L w) (hs : L'.Sublist L) : Hp B E L' w :=
  ⟨h.os, h.tape, h.output, h.size, h.old, fun y hy => h.blk y (hs.subset hy), (hs.map _).nodup h.apart⟩

def Tr (n : Nat) (e : Env) (B : World) (E : List Nat) (L : List Ent) (G : Act → World → Prop) : Prop := ∀ a w, EnvOK n e a → Hp B E L w → G a w

section
variable {P : Program} {n : Nat} {e : Env} {B : World} {E : List Nat} {L : List Ent} {G : Act → World → Prop} {ops : Array Oper} {Q : Exit → Act → World → Prop} {rest : List Oper}

theorem Tr.weak {e' : Env} (hs : ∀ i v, lk e' i = some v → lk e i = some v) (h : Tr n e' B E L G) : Tr n e B E L G := fun a w he hw => h a w (he.weak hs) hw
theorem lk_nil (e : Env) : ∀ i v, lk [] i = some v → lk e i = some v := fun _ _ h => by cases h
theorem lk_cons {e e' : Env} {k : Nat} {u : Value} (h : lk e k = some u) (hr : ∀ i v, lk e' i = some v → lk e i = some v) : ∀ i v, lk ((k, u) :: e') i = some v → lk e i = some v := by
  intro i v hv
  simp only [lk] at hv
  split at hv
  · rename_i hb
    obtain rfl : k = i := Nat.eq_of_beq_eq_true hb
    rw [h]; exact hv
  · exact hr i v hv
theorem Tr.subL {L' : List Ent} (hs : L'.Sublist L) (h : Tr n e B E L' G) : Tr n e B E L G := fun a w he hw => h a w he (hw.sub hs)
theorem Tr.imp {G' : Act → World → Prop} (h : Tr n e B E L G') (hi : ∀ a w, G' a w → G a w) : Tr n e B E L G := fun a w he hw => hi a w (h a w he hw)
theorem Tr.byCases (c : Prop) (h1 : c → Tr n e B E L G) (h2 : ¬ c → Tr n e B E L G) : Tr n e B E L G := fun a w he hw => (Classical.em c).elim (fun hc => h1 hc a w he hw) (fun hc => h2 hc a w he hw)

/-! ### Operations that yield a value and leave the world alone -/
def VOp (P : Program) (n : Nat) (e : Env) (B : World) (E : List Nat) (L : List Ent) (op : Op) (ty : TypeId) (v : Value) : Prop :=
  ∀ a w (dst : Option Tmp) (pos : String) (af : Array Edge) (g : Option (Nat × Bool)), EnvOK n e a → Hp B E L w → (execOp a.eval ⟨dst, op, ty, pos, af, g⟩).run P w = .ok (.value v) w

/-- What a guard asks is known. -/
def gv (ops : Array Oper) (e : Env) (j : Nat) : Option Bool := match (ops[j]?).bind (·.dst) with
  | some d => match lk e d with
    | some (.bool b) => some b
    | _ => none
  | none => none
theorem yielded_of_gv {a : Act} {j : Nat} {b : Bool} (he : EnvOK n e a) (h : gv ops e j = some b) : yielded ops a.tmps j = some b := by
  unfold gv at h
  split at h
  · rename_i d hd
    split at h
    · rename_i c hl
      cases h
      have := he.has d _ hl
      simp [yielded, hd, this]
    · cases h
  · cases h

theorem Tr.val {op : Op} {ty : TypeId} {d : Nat} {pos : String} {af : Array Edge} {v : Value} (hv : VOp P n e B E L op ty v) (hd : Nat.blt d n = true) (h : Tr n ((d, v) :: e) B E L (wpList P ops Q rest)) :
    Tr n e B E L (wpList P ops Q (⟨some d, op, ty, pos, af, none⟩ :: rest)) := fun a w he hw => by
  refine wpList_plain rfl fun K hK => ?_
  unfold Oper.wp
  rw [hv a w _ _ _ _ he hw]
  exact hK _ _ (h _ _ (he.put hd v) hw)

theorem Tr.valG {op : Op} {ty : TypeId} {d : Nat} {pos : String} {af : Array Edge} {v : Value} {j : Nat} {b : Bool} (hg : gv ops e j = some b) (hv : VOp P n e B E L op ty v) (hd : Nat.blt d n = true)
    (h : Tr n ((d, v) :: e) B E L (wpList P ops Q rest)) : Tr n e B E L (wpList P ops Q (⟨some d, op, ty, pos, af, some (j, b)⟩ :: rest)) := fun a w he hw => by
  refine wpList_step fun K hK => ?_
  rw [if_pos (by simp [Region.wanted, yielded_of_gv he hg])]
  unfold Oper.wp
  rw [hv a w _ _ _ _ he hw]
  exact hK _ _ (h _ _ (he.put hd v) hw)

theorem Tr.skipG {op : Op} {ty : TypeId} {d : Nat} {pos : String} {af : Array Edge} {j : Nat} {b c : Bool} (hg : gv ops e j = some c) (hb : (c == b) = false) (hd : Nat.blt d n = true)
    (h : Tr n ((d, undef) :: e) B E L (wpList P ops Q rest)) : Tr n e B E L (wpList P ops Q (⟨some d, op, ty, pos, af, some (j, b)⟩ :: rest)) := fun a w he hw => by
  refine wpList_step fun K hK => ?_
  rw [if_neg (by simp only [Region.wanted, yielded_of_gv he hg]; simpa using hb)]
  exact hK _ _ (h _ _ (he.put hd _) hw)

theorem Tr.nil {K : Act → World → Prop} (h : Tr n e B E L K) (hq : Q .normal = K) : Tr n e B E L (wpList P ops Q []) := fun a w he hw => by
  subst hq; exact h a w he hw

/-! ### The plain ones -/
namespace V
theorem move {x : Operand} {ty : TypeId} {v : Value} (hx : ev e x = some v) : VOp P n e B E L (.move x) ty v := fun a w _ _ _ _ he _ => by
  simp [execOp, he.eval hx]
theorem assign {x : Operand} {ty : TypeId} {v : Value} (hx : ev e x = some v) : VOp P n e B E L (.assign x) ty v := fun a w _ _ _ _ he _ => by
  simp [execOp, he.eval hx]
theorem pick {c x y : Operand} {ty : TypeId} {b : Bool} {v : Value} (hc : ev e c = some (.bool b)) (hx : (if b then ev e x else ev e y) = some v) : VOp P n e B E L (.pick c x y) ty v := fun a w _ _ _ _ he _ => by
  simp only [execOp, he.eval hc, asBool]
  cases b
  · simp [he.eval (x := y) (v := v) (by simpa using hx)]
  · simp [he.eval (x := x) (v := v) (by simpa using hx)]
theorem extract {x : Operand} {ty : TypeId} {i : Nat} {vs : Array Value} {v : Value} (hx : ev e x = some (.tuple vs)) (hv : vs[i]? = some v) : VOp P n e B E L (.extract x i) ty v := fun a w _ _ _ _ he _ => by
  simp [execOp, he.eval hx, Instr.extract, hv]
theorem nilCheck {x : Operand} {ty : TypeId} {p : Addr} (hx : ev e x = some (.pointer (some p))) : VOp P n e B E L (.nilCheck x) ty (.pointer (some p)) := fun a w _ _ _ _ he _ => by
  simp [execOp, he.eval hx]
theorem not {x : Operand} {t ty : TypeId} {b : Bool} (hx : ev e x = some (.bool b)) : VOp P n e B E L (.unOp .not t x) ty (.bool (!b)) := fun a w _ _ _ _ he _ => by
  simp [execOp, he.eval hx, Op.unary]

/-! ### Numbers -/
theorem int2 {op : BinOp} {t yt ty : TypeId} {x y : Operand} {k k' : IntKind} {i j : Int} {v : Value} (hx : ev e x = some (.int k i)) (hy : ev e y = some (.int k' j))
    (h : ∀ w, (binOp op t (.int k i) (.int k' j)).run P w = .ok v w) : VOp P n e B E L (.binOp op t x y yt) ty v := fun a w _ _ _ _ he _ => by
  have hg : (eqGuard op t x y (.int k i) (.int k' j)).run P w = .ok () w := by
    unfold eqGuard
    cases op <;> simp
  simp [execOp, he.eval hx, he.eval hy, hg, h]

theorem wrap_id {z : Int} (h0 : -9223372036854775808 ≤ z) (h1 : z ≤ 9223372036854775807) : IntKind.i64.wrap z = z := by rw [IntKind.wrap_i64]; omega
theorem add {t yt ty : TypeId} {x y : Operand} {i j : Int} (hx : ev e x = some (.int .i64 i)) (hy : ev e y = some (.int .i64 j)) (hb : -9223372036854775808 ≤ i + j ∧ i + j ≤ 9223372036854775807) :
    VOp P n e B E L (.binOp .add t x y yt) ty (.int .i64 (i + j)) := int2 hx hy fun w => by simp [binOp, Op.intArith, wrap_id hb.1 hb.2]
theorem sub {t yt ty : TypeId} {x y : Operand} {i j : Int} (hx : ev e x = some (.int .i64 i)) (hy : ev e y = some (.int .i64 j)) (hb : -9223372036854775808 ≤ i - j ∧ i - j ≤ 9223372036854775807) :
    VOp P n e B E L (.binOp .sub t x y yt) ty (.int .i64 (i - j)) := int2 hx hy fun w => by simp [binOp, Op.intArith, wrap_id hb.1 hb.2]
theorem mul {t yt ty : TypeId} {x y : Operand} {i j : Int} (hx : ev e x = some (.int .i64 i)) (hy : ev e y = some (.int .i64 j)) (hb : -9223372036854775808 ≤ i * j ∧ i * j ≤ 9223372036854775807) :
    VOp P n e B E L (.binOp .mul t x y yt) ty (.int .i64 (i * j)) := int2 hx hy fun w => by simp [binOp, Op.intArith, wrap_id hb.1 hb.2]
theorem arith {op : BinOp} {t yt ty : TypeId} {x y : Operand} {i j z : Int} (hx : ev e x = some (.int .i64 i)) (hy : ev e y = some (.int .i64 j))
    (h : ∀ w, (binOp op t (.int .i64 i) (.int .i64 j)).run P w = .ok (.int .i64 z) w) : VOp P n e B E L (.binOp op t x y yt) ty (.int .i64 z) := int2 hx hy h
theorem rem {t yt ty : TypeId} {x y : Operand} {i j : Int} (hx : ev e x = some (.int .i64 i)) (hy : ev e y = some (.int .i64 j)) (h0 : 0 ≤ i) (hj : 0 < j) :
    VOp P n e B E L (.binOp .rem t x y yt) ty (.int .i64 (i % j)) := int2 hx hy fun w => by
  have hn : ¬ j = 0 := by omega
  simp [binOp, Op.intDiv, hn, Int.tmod_eq_emod_of_nonneg h0]
theorem quo {t yt ty : TypeId} {x y : Operand} {i j : Int} (hx : ev e x = some (.int .i64 i)) (hy : ev e y = some (.int .i64 j)) (h0 : 0 ≤ i) (h1 : i ≤ 9223372036854775807) (hj : 0 < j) :
    VOp P n e B E L (.binOp .quo t x y yt) ty (.int .i64 (i / j)) := int2 hx hy fun w => by
  have hn : ¬ j = 0 := by omega
  have hq : IntKind.i64.wrap (i / j) = i / j := by
    have := Int.ediv_nonneg h0 (Int.le_of_lt hj)
    have := Int.ediv_le_self j h0
    exact wrap_id (by omega) (by omega)
  simp [binOp, Op.intDiv, hn, Int.tdiv_eq_ediv_of_nonneg h0, hq]

theorem lss {t yt ty : TypeId} {x y : Operand} {k : IntKind} {i j : Int} {b : Bool} (hx : ev e x = some (.int k i)) (hy : ev e y = some (.int k j)) (hb : decide (i < j) = b) :
    VOp P n e B E L (.binOp .lss t x y yt) ty (.bool b) := int2 hx hy fun w => by simp [binOp, Op.intCmp, hb]
theorem leq {t yt ty : TypeId} {x y : Operand} {k : IntKind} {i j : Int} {b : Bool} (hx : ev e x = some (.int k i)) (hy : ev e y = some (.int k j)) (hb : decide (i ≤ j) = b) :
    VOp P n e B E L (.binOp .leq t x y yt) ty (.bool b) := int2 hx hy fun w => by simp [binOp, Op.intCmp, hb]
theorem gtr {t yt ty : TypeId} {x y : Operand} {k : IntKind} {i j : Int} {b : Bool} (hx : ev e x = some (.int k i)) (hy : ev e y = some (.int k j)) (hb : decide (j < i) = b) :
    VOp P n e B E L (.binOp .gtr t x y yt) ty (.bool b) := int2 hx hy fun w => by simp [binOp, Op.intCmp, hb]
theorem geq {t yt ty : TypeId} {x y : Operand} {k : IntKind} {i j : Int} {b : Bool} (hx : ev e x = some (.int k i)) (hy : ev e y = some (.int k j)) (hb : decide (j ≤ i) = b) :
    VOp P n e B E L (.binOp .geq t x y yt) ty (.bool b) := int2 hx hy fun w => by simp [binOp, Op.intCmp, hb]
theorem eql {t yt ty : TypeId} {x y : Operand} {k : IntKind} {i j : Int} {b : Bool} (hx : ev e x = some (.int k i)) (hy : ev e y = some (.int k j)) (hb : decide (i = j) = b) :
    VOp P n e B E L (.binOp .eql t x y yt) ty (.bool b) := int2 hx hy fun w => by
  have : (i == j) = b := by rw [← hb]; rfl
  simp [binOp, Op.intCmp, this]
theorem neq {t yt ty : TypeId} {x y : Operand} {k : IntKind} {i j : Int} {b : Bool} (hx : ev e x = some (.int k i)) (hy : ev e y = some (.int k j)) (hb : decide (¬ i = j) = b) :
    VOp P n e B E L (.binOp .neq t x y yt) ty (.bool b) := int2 hx hy fun w => by
  have : (i != j) = b := by rw [← hb]; simp [bne, BEq.beq]
  simp [binOp, Op.intCmp, this]
theorem eqlB {t yt ty : TypeId} {x y : Operand} {i j : Bool} (ht : ∀ w, (underlying t).run P w = .ok .bool w) (hx : ev e x = some (.bool i)) (hy : ev e y = some (.bool j)) :
    VOp P n e B E L (.binOp .eql t x y yt) ty (.bool (i == j)) := fun a w _ _ _ _ he _ => by
  have h1 : ∀ d, (Op.equalIn (d + 1) t (.bool i) (.bool j)).run P w = .ok (i == j) w := fun d => by unfold Op.equalIn; simp [ht]
  have h2 : (binOp .eql t (.bool i) (.bool j)).run P w = .ok (.bool (i == j)) w := by
    show ((do pure (Value.bool (← Op.equalIn (9999 + 1) t (.bool i) (.bool j)))) : Sem Value).run P w = _
    simp only [Sem.run_bind, Sem.run_pure, h1, Result.andThen_ok]
  have h3 : (eqGuard .eql t x y (.bool i) (.bool j)).run P w = .ok () w := by simp [eqGuard]
  simp only [execOp, he.eval hx, he.eval hy, Sem.run_bind, Sem.run_pure, h2, h3, Result.andThen_ok]
theorem eqlS {t yt ty : TypeId} {x y : Operand} {i j : ByteArray} {b : Bool} (hx : ev e x = some (.string i)) (hy : ev e y = some (.string j)) (hb : (i.toList == j.toList) = b) :
    VOp P n e B E L (.binOp .eql t x y yt) ty (.bool b) := fun a w _ _ _ _ he _ => by
  simp [execOp, he.eval hx, he.eval hy, eqGuard, binOp, Op.stringOp, hb]

/-! ### min, max, len -/
theorem bi {bf : Builtin} {args : Array Operand} {ats : Array TypeId} {ty : TypeId} {vs : List Value} {v : Value} (hx : ∀ a, EnvOK n e a → (args.map a.eval) = vs.toArray)
    (h : ∀ cs w, (builtin bf ats ty cs vs.toArray).run P w = .ok (.value v) w) : VOp P n e B E L (.call ⟨.builtin bf, args, ats⟩) ty v := fun a w _ _ _ _ he _ => by
  simp only [execOp, resolve, invoke, Sem.run_bind, Sem.run_pure, Result.andThen_ok, hx a he]
  exact h _ w
theorem min {x y : Operand} {ats : Array TypeId} {ty : TypeId} {i j z : Int} (hx : ev e x = some (.int .i64 i)) (hy : ev e y = some (.int .i64 j)) (hz : (if j < i then j else i) = z) :
    VOp P n e B E L (.call ⟨.builtin .min, #[x, y], ats⟩) ty (.int .i64 z) :=
  bi (vs := [.int .i64 i, .int .i64 j]) (fun a he => by simp [he.eval hx, he.eval hy]) fun cs w => by simp [builtin, Builtin.min_, Builtin.min2, hz]
theorem max {x y : Operand} {ats : Array TypeId} {ty : TypeId} {i j z : Int} (hx : ev e x = some (.int .i64 i)) (hy : ev e y = some (.int .i64 j)) (hz : (if i < j then j else i) = z) :
    VOp P n e B E L (.call ⟨.builtin .max, #[x, y], ats⟩) ty (.int .i64 z) :=
  bi (vs := [.int .i64 i, .int .i64 j]) (fun a he => by simp [he.eval hx, he.eval hy]) fun cs w => by simp [builtin, Builtin.max_, Builtin.max2, hz]
theorem len {x : Operand} {t E' : TypeId} {ty : TypeId} {p : Option Addr} {m c : Nat} (ht : ∀ w, (underlying t).run P w = .ok (.slice E') w) (hx : ev e x = some (.slice p m c)) :
    VOp P n e B E L (.call ⟨.builtin .len, #[x], #[t]⟩) ty (.int .i64 m) :=
  bi (vs := [.slice p m c]) (fun a he => by simp [he.eval hx]) fun cs w => by simp [builtin, Builtin.len_, ht, goInt]
theorem cap {x : Operand} {t E' : TypeId} {ty : TypeId} {p : Option Addr} {m c : Nat} (ht : ∀ w, (underlying t).run P w = .ok (.slice E') w) (hx : ev e x = some (.slice p m c)) :
    VOp P n e B E L (.call ⟨.builtin .cap, #[x], #[t]⟩) ty (.int .i64 c) :=
  bi (vs := [.slice p m c]) (fun a he => by simp [he.eval hx]) fun cs w => by simp [builtin, Builtin.cap_, ht, goInt]
theorem lenS {x : Operand} {t : TypeId} {ty : TypeId} {s : ByteArray} (ht : ∀ w, (underlying t).run P w = .ok .string w) (hx : ev e x = some (.string s)) :
    VOp P n e B E L (.call ⟨.builtin .len, #[x], #[t]⟩) ty (.int .i64 s.size) :=
  bi (vs := [.string s]) (fun a he => by simp [he.eval hx]) fun cs w => by simp [builtin, Builtin.len_, ht, goInt]
end V
end
end Go.Sym
