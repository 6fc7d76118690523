/-
  Rules of the walk, on: slices of slices, elements of arrays by value, new blocks, stores, append, copy, calls.
-/
import Derived.Test.YtnhfmmohdiccgaaSymD
import Derived.Lib.AppendZerosOnto
namespace Go.Sym

/-- A slice type whose elements are one cell each. -/
structure ElemT (P : Program) (sT el : TypeId) (z : Value) (bytes : Nat) : Prop where
  und : P.underlying sT = some (.slice el)
  info : ∃ i, P.info? el = some i ∧ i.zero = some z ∧ i.size = 1 ∧ i.bytes = bytes
  zc : z.cells = #[z]

section
variable {P : Program} {n : Nat} {e : Env} {B : World} {E : List Nat} {L L' : List Ent} {ops : Array Oper} {Q : Exit → Act → World → Prop} {rest : List Oper} {K : Act → World → Prop}

theorem ElemT.run {sT el : TypeId} {z : Value} {bytes : Nat} (T : ElemT P sT el z bytes) (w : World) : (underlying sT).run P w = .ok (.slice el) w := run_underlying T.und w
theorem ElemT.size {sT el : TypeId} {z : Value} {bytes : Nat} (T : ElemT P sT el z bytes) (w : World) : (sizeOf el).run P w = .ok 1 w := by
  obtain ⟨i, h1, _, h3, _⟩ := T.info
  simp [sizeOf, typeInfo, h1, h3]

namespace V
/-! ### Slices -/
def bnd : Option Value → Nat → Nat → Prop
  | none, d, r => r = d
  | some (.int _ i), _, r => i = (r : Int)
  | _, _, _ => False
theorem run_bound {x : Value} {y r : Nat} {code : BoundsCode} {d : Nat} (hb : bnd (some x) d r) (hr : r ≤ y) (w : World) : (Instr.sliceBound x y code).run P w = .ok r w := by
  cases x with
  | int k i =>
    obtain rfl : i = (r : Int) := hb
    exact run_sliceBound (P := P) w k r y code (by omega) (by omega)
  | _ => exact hb.elim
theorem run_bounds {isS : Bool} {len cap l h : Nat} {lo hi : Option Value} (hl : bnd lo 0 l) (hh : bnd hi len h) (h1 : l ≤ h) (h2 : h ≤ cap) (w : World) : (Instr.sliceBounds isS len cap lo hi none).run P w = .ok (l, h, cap) w := by
  unfold Instr.sliceBounds
  cases hi with
  | none =>
    obtain rfl : h = len := hh
    cases lo with
    | none => obtain rfl : l = 0 := hl; simp
    | some x => simp [run_bound (P := P) hl h1 w]
  | some y =>
    cases lo with
    | none => obtain rfl : l = 0 := hl; simp [run_bound (P := P) hh h2 w]
    | some x => simp [run_bound (P := P) hl h1 w, run_bound (P := P) hh h2 w]
def evo (e : Env) : Option Operand → Option (Option Value)
  | none => some none
  | some x => match ev e x with
    | some v => some (some v)
    | none => none
theorem evo_map {a : Act} {x : Option Operand} {v : Option Value} (he : EnvOK n e a) (h : evo e x = some v) : x.map a.eval = v := by
  cases x with
  | none => simpa [evo] using h
  | some x =>
    simp only [evo] at h
    split at h
    · rename_i u hu
      cases h
      simp [he.eval hu]
    · cases h
theorem sliceS {t el ty : TypeId} {x : Operand} {lo hi : Option Operand} {vl vh : Option Value} {m c l h : Nat} {p : Option Addr} (ht : ∀ w, (underlying t).run P w = .ok (.slice el) w) (hs : ∀ w, (sizeOf el).run P w = .ok 1 w)
    (hx : ev e x = some (.slice p m c)) (hvl : evo e lo = some vl) (hvh : evo e hi = some vh) (hl : bnd vl 0 l) (hh : bnd vh m h) (h1 : l ≤ h) (h2 : h ≤ c) :
    VOp P n e B E L (.slice t x lo hi none) ty (.slice (if c = l then p else p.map (·.add l)) (h - l) (c - l)) := fun a w _ _ _ _ he hw => by
  have hb := run_bounds (P := P) (isS := true) hl hh h1 h2
  have hsl : (Instr.sliceAt t (.slice p m c) vl vh none).run P w = .ok (.slice (if c = l then p else p.map (·.add l)) (h - l) (c - l)) w := by
    unfold Instr.sliceAt
    simp only [Sem.run_bind, ht, Result.andThen_ok, Instr.slice, hb, hs, Nat.mul_one, Sem.run_pure]
  simp only [execOp, he.eval hx, evo_map he hvl, evo_map he hvh, Option.map_none, Sem.run_bind, Sem.run_pure, hsl, Result.andThen_ok]
theorem sliceA {t el ty : TypeId} {x : Operand} {lo hi : Option Operand} {vl vh : Option Value} {len sz l h g o : Nat} (ht : ∀ w, (underlying t).run P w = .ok (.array len el) w) (hs : ∀ w, (sizeOf el).run P w = .ok sz w)
    (hx : ev e x = some (.pointer (some ⟨g, o, none⟩))) (hvl : evo e lo = some vl) (hvh : evo e hi = some vh) (hl : bnd vl 0 l) (hh : bnd vh len h) (h1 : l ≤ h) (h2 : h ≤ len) :
    VOp P n e B E L (.slice t x lo hi none) ty (.slice (some ⟨g, if len = l then o else o + l * sz, none⟩) (h - l) (len - l)) := fun a w _ _ _ _ he hw => by
  have hb := run_bounds (P := P) (isS := false) hl hh h1 h2
  have hadd : (⟨g, o, none⟩ : Addr).add (l * sz) = ⟨g, o + l * sz, none⟩ := by
    have := at_own g o (l * sz)
    simpa only [at_, Option.getD_some] using this
  have hsl : (Instr.sliceAt t (.pointer (some ⟨g, o, none⟩)) vl vh none).run P w = .ok (.slice (some ⟨g, if len = l then o else o + l * sz, none⟩) (h - l) (len - l)) w := by
    unfold Instr.sliceAt
    simp only [Sem.run_bind, ht, Result.andThen_ok, Instr.sureAddr, hb, hs, Sem.run_pure, hadd]
    split <;> rfl
  simp only [execOp, he.eval hx, evo_map he hvl, evo_map he hvh, Option.map_none, Sem.run_bind, Sem.run_pure, hsl, Result.andThen_ok]
theorem index1 {t el ty : TypeId} {x y : Operand} {k : IntKind} {len j : Nat} {i : Int} {cs : List Value} {v : Value} (ht : ∀ w, (underlying t).run P w = .ok (.array len el) w) (hs : ∀ w, (sizeOf el).run P w = .ok 1 w)
    (ha : ∀ w, (isAgg el).run P w = .ok false w) (hx : ev e x = some (.agg cs.toArray)) (hy : ev e y = some (.int k i)) (hi : i = (j : Int)) (hj : j < len) (hv : cs[j]? = some v) : VOp P n e B E L (.index t x y) ty v := fun a w _ _ _ _ he hw => by
  subst hi
  have h1 : (0 : Int) ≤ j ∧ (j : Int) < len := ⟨by omega, by omega⟩
  simp [execOp, he.eval hx, he.eval hy, Instr.index, asIntOf, ht, hs, h1, part, ha, hv, hj]
theorem indexN {t el ty : TypeId} {x y : Operand} {k : IntKind} {len j sz : Nat} {i : Int} {cs : List Value} (ht : ∀ w, (underlying t).run P w = .ok (.array len el) w) (hs : ∀ w, (sizeOf el).run P w = .ok sz w)
    (ha : ∀ w, (isAgg el).run P w = .ok true w) (hx : ev e x = some (.agg cs.toArray)) (hy : ev e y = some (.int k i)) (hi : i = (j : Int)) (hj : j < len) :
    VOp P n e B E L (.index t x y) ty (.agg ((cs.drop (j * sz)).take sz).toArray) := fun a w _ _ _ _ he hw => by
  subst hi
  have h1 : (0 : Int) ≤ j ∧ (j : Int) < len := ⟨by omega, by omega⟩
  simp [execOp, he.eval hx, he.eval hy, Instr.index, asIntOf, ht, hs, h1, part, ha, hj]
theorem build {t ty : TypeId} {parts : Array (Nat × Operand)} {vs : List (Nat × Value)} {v : Value} (hx : ∀ a, EnvOK n e a → parts.map (fun (i, x) => (i, a.eval x)) = vs.toArray) (hb : ∀ w, (Instr.build t vs.toArray).run P w = .ok v w) :
    VOp P n e B E L (.build t parts) ty v := fun a w _ _ _ _ he hw => by
  have h := hx a he
  simp only [execOp, Sem.run_bind, Sem.run_pure]
  rw [h, hb]; rfl
end V

/-! ### Operations that turn the world -/
/-- One operation's way on, K behind it. -/
def WOp (P : Program) (n : Nat) (e : Env) (B : World) (E : List Nat) (L : List Ent) (Q : Exit → Act → World → Prop) (dst : Option Tmp) (op : Op) (ty : TypeId) (K : Act → World → Prop) : Prop :=
  ∀ (pos : String) (af : Array Edge) (g : Option (Nat × Bool)), Tr n e B E L fun a w => Oper.wp P ⟨dst, op, ty, pos, af, g⟩ a w K Q

theorem Tr.op {dst : Option Tmp} {op : Op} {ty : TypeId} {pos : String} {af : Array Edge} (h : WOp P n e B E L Q dst op ty (wpList P ops Q rest)) : Tr n e B E L (wpList P ops Q (⟨dst, op, ty, pos, af, none⟩ :: rest)) := fun a w he hw => by
  unfold wpList
  rw [if_pos (by simp [Region.wanted])]
  exact .inl (h pos af none a w he hw)

theorem EnvOK.putNone {a : Act} (h : EnvOK n e a) (v : Value) : EnvOK n e (a.put none v) := h

namespace W
theorem ok {dst : Option Tmp} {op : Op} {ty : TypeId} (h : ∀ a w, EnvOK n e a → Hp B E L w → ∃ v w', (∀ pos af g, (execOp a.eval ⟨dst, op, ty, pos, af, g⟩).run P w = .ok (.value v) w') ∧ K (a.put dst v) w') : WOp P n e B E L Q dst op ty K := fun pos af g a w he hw => by
  obtain ⟨v, w', h1, h2⟩ := h a w he hw
  unfold Oper.wp
  rw [h1]
  exact h2
theorem alloc {t ty : TypeId} {d : Nat} {z : Value} {cs : List Value} (hz : ∀ w, (zeroValue t).run P w = .ok z w) (hc : z.cells = cs.toArray) (hd : Nat.blt d n = true)
    (h : ∀ g, Tr n ((d, .pointer (some ⟨g, 0, none⟩)) :: e) B E (⟨g, t, cs⟩ :: L) K) : WOp P n e B E L Q (some d) (.alloc t) ty K := ok fun a w he hw => by
  refine ⟨_, w.alloc (.cells cs.toArray t), fun pos af g => ?_, h _ _ _ (he.put hd _) (hw.alloc t cs)⟩
  simp only [execOp, Instr.alloc, newVar, newRow, Sem.run_bind, Sem.run_pure, hz, Result.andThen_ok, hc, run_newObj]
  rfl
theorem box {t ty : TypeId} {x : Operand} {d : Nat} {z : Value} {cs : List Value} (hx : ev e x = some z) (hc : z.cells = cs.toArray) (hd : Nat.blt d n = true)
    (h : ∀ g, Tr n ((d, .pointer (some ⟨g, 0, none⟩)) :: e) B E (⟨g, t, cs⟩ :: L) K) : WOp P n e B E L Q (some d) (.box t x) ty K := ok fun a w he hw => by
  refine ⟨_, w.alloc (.cells cs.toArray t), fun pos af g => ?_, h _ _ _ (he.put hd _) (hw.alloc t cs)⟩
  simp only [execOp, he.eval hx, Instr.box, newVar, newRow, Sem.run_bind, Sem.run_pure, Result.andThen_ok, hc, run_newObj]
  rfl
theorem skip {op : Op} {ty : TypeId} (h : ∀ a w, EnvOK n e a → Hp B E L w → ∃ w', (∀ pos af g, (execOp a.eval ⟨none, op, ty, pos, af, g⟩).run P w = .ok .skip w') ∧ K a w') : WOp P n e B E L Q none op ty K := fun pos af g a w he hw => by
  obtain ⟨w', h1, h2⟩ := h a w he hw
  unfold Oper.wp
  rw [h1]
  exact h2
/-- A store of some cells into a block at hand. -/
theorem storeCells {t ty tb : TypeId} {x y : Operand} {g o sz : Nat} {v : Value} {vs cs : List Value} (hs : ∀ w, (sizeOf t).run P w = .ok sz w) (hx : ev e x = some (.pointer (some ⟨g, o, none⟩))) (hy : ev e y = some v)
    (hc : v.cells = vs.toArray) (hl : vs.length = sz) (h1 : ∀ u ∈ vs, u.oneCell' = true) (hu : Upd ⟨g, tb, cs⟩ ⟨g, tb, cs.take o ++ vs ++ cs.drop (o + vs.length)⟩ L L') (hf : o + vs.length ≤ cs.length)
    (h : Tr n e B E L' K) : WOp P n e B E L Q none (.store t x y) ty K := skip fun a w he hw => by
  subst hl
  have hg := (hw.blk _ hu.mem).1
  have hst := run_storeCells_at P g o tb vs 0 cs.toArray w hg (by simpa using hf) h1
  refine ⟨_, fun pos af g' => ?_, h a _ he (hw.setRow hu)⟩
  simp only [execOp, he.eval hx, he.eval hy, Instr.storeAt, Instr.sureAddr, storeVar, Sem.run_bind, Sem.run_pure, Result.andThen_ok, hs, hc, List.size_toArray, ne_eq, not_true_eq_false, if_false]
  rw [hst]
  simp [Result.andThen]
theorem set_splice (cs : List Value) (o : Nat) (v : Value) (h : o < cs.length) : cs.take o ++ [v] ++ cs.drop (o + 1) = cs.set o v := by
  rw [List.set_eq_take_append_cons_drop, if_pos h]; simp
/-- One cell. -/
theorem store1 {t ty tb : TypeId} {x y : Operand} {g o : Nat} {v : Value} {cs : List Value} (hs : ∀ w, (sizeOf t).run P w = .ok 1 w) (hx : ev e x = some (.pointer (some ⟨g, o, none⟩))) (hy : ev e y = some v)
    (hc : v.cells = #[v]) (h1 : v.oneCell' = true) (hu : Upd ⟨g, tb, cs⟩ ⟨g, tb, cs.set o v⟩ L L') (hf : o < cs.length) (h : Tr n e B E L' K) : WOp P n e B E L Q none (.store t x y) ty K :=
  storeCells (vs := [v]) (cs := cs) (tb := tb) hs hx hy hc rfl (by simpa using h1) (by rw [List.length_singleton, set_splice cs o v hf]; exact hu) (by rw [List.length_singleton]; exact hf) h
/-- A whole block. -/
theorem storeAll {t ty tb : TypeId} {x y : Operand} {g sz : Nat} {vs cs : List Value} (hs : ∀ w, (sizeOf t).run P w = .ok sz w) (hx : ev e x = some (.pointer (some ⟨g, 0, none⟩))) (hy : ev e y = some (.agg vs.toArray))
    (hl : vs.length = sz) (hl' : cs.length = sz) (h1 : ∀ u ∈ vs, u.oneCell' = true) (hu : Upd ⟨g, tb, cs⟩ ⟨g, tb, vs⟩ L L') (h : Tr n e B E L' K) : WOp P n e B E L Q none (.store t x y) ty K :=
  storeCells (vs := vs) (cs := cs) (tb := tb) hs hx hy rfl hl h1 (by rw [List.drop_eq_nil_of_le (by omega)]; simpa using hu) (by omega) h

theorem makeSlice {sT el : TypeId} {z : Value} {bytes : Nat} (T : ElemT P sT el z bytes) {ty : TypeId} {x y : Operand} {d l c : Nat} {kl kc : IntKind} {il ic : Int} (hx : ev e x = some (.int kl il)) (hy : ev e y = some (.int kc ic))
    (hil : il = (l : Int)) (hic : ic = (c : Int)) (hlc : l ≤ c) (hb : bytes * c ≤ 281474976710656) (h63 : c ≤ 9223372036854775807) (hd : Nat.blt d n = true)
    (h : ∀ g, Tr n ((d, .slice (some ⟨g, 0, none⟩) l c) :: e) B E (⟨g, el, List.replicate c z⟩ :: L) K) : WOp P n e B E L Q (some d) (.makeSlice sT x y) ty K := ok fun a w he hw => by
  subst hil; subst hic
  obtain ⟨i, h1, h2, h3, h4⟩ := T.info
  have hb' : (i.bytes : Int) * (c : Int) ≤ 281474976710656 := by
    have hb' : ((bytes * c : Nat) : Int) ≤ 281474976710656 := by omega
    rw [h4]; rwa [Int.natCast_mul] at hb'
  have hr := run_make (P := P) w sT el i z T.und h1 h2 kl kc (l : Int) (c : Int) (by omega) (by omega) hb' (by omega)
  have hc : madeCells z.cells ((c : Int).toNat * i.size) = (List.replicate c z).toArray := by
    rw [T.zc, h3]
    simp only [madeCells, Int.toNat_natCast, Nat.mul_one]
    apply Array.ext
    · simp
    · intro k hk1 hk2
      simp [Nat.mod_one]
  rw [hc] at hr
  simp only [Int.toNat_natCast] at hr
  refine ⟨_, _, fun pos af g => ?_, h _ _ _ (he.put hd _) (hw.alloc el _)⟩
  simp only [execOp, he.eval hx, he.eval hy, Sem.run_bind, Sem.run_pure, hr, Result.andThen_ok]
theorem buildSlice {ty sT el : TypeId} {parts : Array (Nat × Operand)} {vs : List (Nat × Value)} {cs : List Value} {len d : Nat}
    (hx : ∀ a, EnvOK n e a → parts.map (fun (i, x) => (i, a.eval x)) = vs.toArray)
    (hb : ∀ w, (Instr.buildSlice sT len vs.toArray).run P w = .ok (.slice (some ⟨w.heap.size, 0, none⟩) len len) (w.alloc (.cells cs.toArray el))) (hd : Nat.blt d n = true)
    (h : ∀ g, Tr n ((d, .slice (some ⟨g, 0, none⟩) len len) :: e) B E (⟨g, el, cs⟩ :: L) K) : WOp P n e B E L Q (some d) (.buildSlice sT len parts) ty K := ok fun a w he hw => by
  refine ⟨_, _, fun pos af g => ?_, h _ _ _ (he.put hd _) (hw.alloc el cs)⟩
  simp only [execOp, Sem.run_bind, Sem.run_pure, hx a he, hb, Result.andThen_ok]

theorem bi {bf : Builtin} {args : Array Operand} {ats : Array TypeId} {dst : Option Tmp} {ty : TypeId} {vs : List Value} (hx : ∀ a, EnvOK n e a → (args.map a.eval) = vs.toArray)
    (h : ∀ a w, EnvOK n e a → Hp B E L w → ∃ v w', (∀ cs, (builtin bf ats ty cs vs.toArray).run P w = .ok (.value v) w') ∧ K (a.put dst v) w') : WOp P n e B E L Q dst (.call ⟨.builtin bf, args, ats⟩) ty K := ok fun a w he hw => by
  obtain ⟨v, w', h1, h2⟩ := h a w he hw
  refine ⟨v, w', fun pos af g => ?_, h2⟩
  simp only [execOp, resolve, invoke, Sem.run_bind, Sem.run_pure, Result.andThen_ok, hx a he, h1]

/-! ### append -/
theorem zeroCells1 (z : Value) (k : Nat) : Builtin.zeroCells #[z] k = (List.replicate k z).toArray := by
  unfold Builtin.zeroCells
  apply Array.ext
  · simp
  · intro i h1 h2
    simp [Nat.mod_one]
theorem rd_cells {p : Option Addr} {vs : List Value} {ad : Addr} (hr : RdP B E L p vs) (hp : p = some ad) {w : World} (hw : Hp B E L w) : ∀ j v, vs[j]? = some v → w.cell? (ad.add j) = some v := fun j v hv => by
  subst hp
  exact (hr w hw j v hv).2

/-- append to a slice that lies at the head of its own block. -/
theorem append {sT el : TypeId} {z : Value} {bytes : Nat} (T : ElemT P sT el z bytes) {ty : TypeId} {s x : Operand} {d g m c k c2 : Nat} {p : Option Addr} {xs junk vs : List Value} {L' : Ent → List Ent}
    (hs : ev e s = some (.slice (some ⟨g, 0, none⟩) m c)) (hx : ev e x = some (.slice p k c2)) (hr : RdP B E L p vs) (hk : vs.length = k) (hv : ∀ u ∈ vs, u.oneCell' = true)
    (hu : ∀ y, Upd ⟨g, el, xs ++ junk⟩ y L (L' y)) (hm : xs.length = m) (hc : (xs ++ junk).length = c) (hb : (m + k) * bytes ≤ 140737488355328) (h63 : m + k ≤ 9223372036854775807) (hd : Nat.blt d n = true)
    (h : ∀ g' c' junk', (xs ++ vs ++ junk').length = c' → Tr n ((d, .slice (some ⟨g', 0, none⟩) (m + k) c') :: e) B E (L' ⟨g', el, xs ++ vs ++ junk'⟩) K) :
    WOp P n e B E L Q (some d) (.call ⟨.builtin .append, #[s, x], #[sT, sT]⟩) ty K :=
  bi (vs := [.slice (some ⟨g, 0, none⟩) m c, .slice p k c2]) (fun a he => by simp [he.eval hs, he.eval hx]) fun a w he hw => by
    obtain ⟨i, h1, h2, h3, h4⟩ := T.info
    have hblk := (hw.blk _ (hu ⟨g, el, []⟩).mem).1
    have hxs : ∀ j v, xs[j]? = some v → w.cell? ((⟨g, 0, none⟩ : Addr).add j) = some v := fun j v hj => by
      have := at_own g 0 j
      simp only [at_, Option.getD_some, Nat.zero_add] at this
      rw [this]
      exact hw.cell (hu ⟨g, el, []⟩).mem (by rw [List.getElem?_append_left (List.getElem?_eq_some_iff.1 hj).1]; exact hj)
    have hfree : ∀ cs', Upd ⟨g, el, xs ++ junk⟩ ⟨g, el, cs'⟩ L (L' ⟨g, el, cs'⟩) := fun _ => hu _
    by_cases hroom : m + k ≤ c
    · -- there is room
      have hnew : (w.setRow g ((xs ++ junk).toArray.toList.take (m * i.size) ++ vs ++ (xs ++ junk).toArray.toList.drop (m * i.size + vs.length)).toArray) = w.setRow g (xs ++ vs ++ junk.drop k).toArray := by
        rw [h3, Nat.mul_one, hk]
        congr 2
        simp only
        rw [← hm, List.take_left]
        congr 1
        rw [List.drop_append, List.drop_eq_nil_of_le (by omega)]
        simp
      have hrun : (Builtin.append_ #[sT, sT] ty #[.slice (some ⟨g, 0, none⟩) m c, .slice p k c2]).run P w = .ok (.slice (some ⟨g, 0, none⟩) (m + k) c) (w.setRow g (xs ++ vs ++ junk.drop k).toArray) := by
        rw [← hnew]
        cases p with
        | none =>
          obtain rfl : vs = [] := by
            cases vs with
            | nil => rfl
            | cons u us => exact absurd (hr w hw 0 u rfl).1 (by simp)
          obtain rfl : k = 0 := by simpa using hk.symm
          have hst := run_storeCells_at P g (m * i.size) el [] 0 (xs ++ junk).toArray w hblk (by simp [h3]; simp at hc; omega) (by simp)
          simp only [Nat.add_zero] at hst
          have e1 : (m * i.size) = m := by rw [h3]; omega
          simp only [Builtin.append_, run_underlying T.und, sizeOf, typeInfo, h1, Builtin.lenOf, Builtin.firstCells, Sem.run_bind, Sem.run_pure, Result.andThen_ok, List.getElem?_toArray, List.getElem?_cons_zero, List.getElem?_cons_succ]
          have hr1 : m ≤ c := by omega
          have hr2 : ¬ c < m := by omega
          simp [hr1, hr2, h1, Addr.add_lit, hst]
        | some ad => exact run_append_room (P := P) w sT ty el i T.und h1 g m c (xs ++ junk).toArray hblk ad k c2 vs (by rw [h3, hk]; omega) (rd_cells hr rfl hw) hv hroom (by rw [h3, hk]; simp at hc ⊢; omega)
      refine ⟨_, _, fun cs => ?_, h g c (junk.drop k) ?_ _ _ (he.put hd _) (hw.setRow (hu _))⟩
      · simp only [builtin, Sem.run_bind, Sem.run_pure, hrun, Result.andThen_ok]
      · simp at hc ⊢; omega
    · -- there is none: a new block
      have hk0 : 0 < k := by simp at hc; omega
      have hp : ∃ ad, p = some ad := by
        have := hr.isSome hw (by omega)
        exact Option.isSome_iff_exists.1 this
      obtain ⟨ad, rfl⟩ := hp
      have hrun := run_append_grow (P := P) w sT ty el i z T.und h1 h2 ⟨g, 0, none⟩ m c xs (by rw [h3]; omega) hxs ad k c2 vs (by rw [h3, hk]; omega) (rd_cells hr rfl hw) (by omega) (by omega) (growslice_fits (by omega) (by rw [h4]; exact hb))
      have hcells : (xs.toArray ++ vs.toArray ++ Builtin.zeroCells z.cells (grownCap w (m + k) c el - (m + k))) = (xs ++ vs ++ List.replicate (grownCap w (m + k) c el - (m + k)) z).toArray := by
        rw [T.zc, zeroCells1]; simp
      rw [hcells] at hrun
      refine ⟨_, w.drew.alloc (.cells (xs ++ vs ++ List.replicate (grownCap w (m + k) c el - (m + k)) z).toArray el), fun cs => ?_, h w.heap.size (grownCap w (m + k) c el) (List.replicate (grownCap w (m + k) c el - (m + k)) z) ?_ _ _ (he.put hd _) ?_⟩
      · simp only [builtin, Sem.run_bind, Sem.run_pure, hrun, Result.andThen_ok]
      · have := grownCap_ge w (m + k) c el
        simp at hc ⊢; omega
      · exact (hw.drawn (w.drawn + 1)).upd (w := w.drew) (hu _) rfl rfl rfl (by simp) (fun k hk _ => heap_alloc_old w.drew _ hk) (heap_alloc_new w.drew _) (.inr (Nat.le_refl _))
end W
end
end Go.Sym
