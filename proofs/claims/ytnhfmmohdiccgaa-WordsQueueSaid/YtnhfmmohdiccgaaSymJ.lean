/-
  Rules of the walk, on: arrays of bytes held against each other.
-/
import Derived.Test.YtnhfmmohdiccgaaSymI
import Derived.ChangeKeysEq
import Derived.Laws.StructEq
namespace Go.Sym
section
variable {P : Program} {n : Nat} {e : Env} {B : World} {E : List Nat} {L L' : List Ent} {ops : Array Oper} {Q : Exit → Act → World → Prop} {rest : List Oper} {K : Act → World → Prop}
/-- An array type of bytes. -/
structure ArrT (P : Program) (t el : TypeId) (len : Nat) : Prop where
  und : P.underlying t = some (.array len el)
  elu : P.underlying el = some (.int .u8)
  info : ∃ i, P.info? el = some i ∧ i.size = 1
  agg : ∀ w, (isAgg el).run P w = .ok false w
  guard : P.eqGuardType P.depth t = false
theorem run_items {t el : TypeId} {len : Nat} (T : ArrT P t el len) (as bs : List (BitVec 8)) (w : World) (d : Nat) : ∀ (k i : Nat), i + k = as.length → as.length = bs.length →
    (Op.eqItems (d + 1) el (P.cellsOf el) (as.map U8).toArray (bs.map U8).toArray (List.range' i k)).run P w = .ok (decide (as.drop i = bs.drop i)) w := by
  intro k
  obtain ⟨inf, hi, hs⟩ := T.info
  have hc : P.cellsOf el = 1 := by simp [Program.cellsOf, hi, hs]
  induction k with
  | zero =>
    intro i hik hl
    rw [List.drop_eq_nil_of_le (by omega), List.drop_eq_nil_of_le (by omega)]
    simp [Op.eqItems]
  | succ k ih =>
    intro i hik hl
    rw [List.range'_succ]
    have ha : (part el (as.map U8).toArray (i * 1)).run P w = .ok (U8 (as[i]'(by omega))) w := by
      simp [part, T.agg, show i < as.length by omega]
    have hb : (part el (bs.map U8).toArray (i * 1)).run P w = .ok (U8 (bs[i]'(by omega))) w := by
      simp [part, T.agg, show i < bs.length by omega]
    have he := run_equalIn_int (P := P) w d el .u8 .u8 ((as[i]'(by omega)).toNat : Int) ((bs[i]'(by omega)).toNat : Int) T.elu
    have hdr : (as.drop i = bs.drop i) ↔ ((((as[i]'(by omega)).toNat : Int) == ((bs[i]'(by omega)).toNat : Int)) = true ∧ as.drop (i + 1) = bs.drop (i + 1)) := by
      rw [List.drop_eq_getElem_cons (show i < as.length by omega), List.drop_eq_getElem_cons (show i < bs.length by omega), List.cons.injEq]
      refine and_congr_left fun _ => ?_
      constructor
      · intro h; rw [h]; simp
      · intro h
        have : ((as[i]'(by omega)).toNat : Int) = ((bs[i]'(by omega)).toNat : Int) := by simpa using h
        exact BitVec.eq_of_toNat_eq (by omega)
    simp only [Op.eqItems, hc, Sem.run_bind, ha, hb, he, Result.andThen_ok]
    cases hq : (((as[i]'(by omega)).toNat : Int) == ((bs[i]'(by omega)).toNat : Int)) with
    | false =>
      have : ¬ as.drop i = bs.drop i := fun h => by
        have := (hdr.1 h).1
        rw [hq] at this; cases this
      simp [this]
    | true =>
      have h2 := ih (i + 1) (by omega) hl
      rw [hc] at h2
      rw [if_neg (by simp), h2]
      congr 1
      rw [decide_eq_decide, hdr]
      simp [hq]
theorem run_eqlA {t el : TypeId} {len : Nat} (T : ArrT P t el len) (as bs : List (BitVec 8)) (ha : as.length = len) (hb : bs.length = len) (w : World) (d : Nat) :
    (Op.equalIn (d + 2) t (.agg (as.map U8).toArray) (.agg (bs.map U8).toArray)).run P w = .ok (decide (as = bs)) w := by
  obtain ⟨inf, hi, hs⟩ := T.info
  rw [run_equalIn_array w (d + 1) _ _ T.und hi, List.range_eq_range', run_items T as bs w d len 0 (by omega) (by omega)]
  simp
namespace V
theorem eqlA {t el yt ty : TypeId} {len : Nat} (T : ArrT P t el len) {x y : Operand} {as bs : List (BitVec 8)} {b : Bool} (hx : ev e x = some (.agg (as.map U8).toArray)) (hy : ev e y = some (.agg (bs.map U8).toArray))
    (ha : as.length = len) (hb : bs.length = len) (hq : decide (as = bs) = b) : VOp P n e B E L (.binOp .eql t x y yt) ty (.bool b) := fun a w _ _ _ _ he _ => by
  have h3 := run_eqGuard_agg (P := P) w .eql t x y (as.map U8).toArray (bs.map U8).toArray T.guard
  have h2 : (binOp .eql t (.agg (as.map U8).toArray) (.agg (bs.map U8).toArray)).run P w = .ok (.bool b) w := by
    rw [run_eql_struct, show 10000 = 9998 + 2 from rfl, run_eqlA T as bs ha hb, hq]
    rfl
  simp only [execOp, he.eval hx, he.eval hy, Sem.run_bind, Sem.run_pure, h2, h3, Result.andThen_ok]
theorem neqA {t el yt ty : TypeId} {len : Nat} (T : ArrT P t el len) {x y : Operand} {as bs : List (BitVec 8)} {b : Bool} (hx : ev e x = some (.agg (as.map U8).toArray)) (hy : ev e y = some (.agg (bs.map U8).toArray))
    (ha : as.length = len) (hb : bs.length = len) (hq : (!decide (as = bs)) = b) : VOp P n e B E L (.binOp .neq t x y yt) ty (.bool b) := fun a w _ _ _ _ he _ => by
  have h3 := run_eqGuard_agg (P := P) w .neq t x y (as.map U8).toArray (bs.map U8).toArray T.guard
  have h2 : (binOp .neq t (.agg (as.map U8).toArray) (.agg (bs.map U8).toArray)).run P w = .ok (.bool b) w := by
    rw [run_neq_struct, show 10000 = 9998 + 2 from rfl, run_eqlA T as bs ha hb, ← hq]
    rfl
  simp only [execOp, he.eval hx, he.eval hy, Sem.run_bind, Sem.run_pure, h2, h3, Result.andThen_ok]
end V
/-! ### A slice that is nil, or lies at the head of its own block -/
/-- None: nil; some: its block, its capacity, what lies behind. -/
abbrev Row := Option (Nat × Nat × List Value)
def Row.val : Row → Nat → Value
  | none, _ => .slice none 0 0
  | some (g, c, _), m => .slice (some ⟨g, 0, none⟩) m c
def Row.blk (el : TypeId) : Row → List Value → List Ent
  | none, _ => []
  | some (g, _, junk), xs => [⟨g, el, xs ++ junk⟩]
def Row.ok : Row → List Value → Prop
  | none, xs => xs = []
  | some (_, c, junk), xs => (xs ++ junk).length = c
theorem Row.read {el : TypeId} (o : Row) (xs : List Value) (hok : o.ok xs) (hm : ∀ x ∈ o.blk el xs, x ∈ L) : ∃ p m c, o.val xs.length = .slice p m c ∧ RdP B E L p xs ∧ m = xs.length ∧ (p = none → m = 0 ∧ c = 0 ∧ xs = []) ∧ m ≤ c := by
  match o, hok with
  | none, hok =>
    obtain rfl : xs = [] := hok
    exact ⟨none, 0, 0, rfl, RdP.nil, rfl, fun _ => ⟨rfl, rfl, rfl⟩, Nat.le_refl _⟩
  | some (g, c, junk), hok =>
    have hok' : (xs ++ junk).length = c := hok
    exact ⟨some ⟨g, 0, none⟩, xs.length, c, rfl, RdP.headL (hm _ (.head _)), rfl, (fun h => by cases h), by rw [← hok', List.length_append]; omega⟩
theorem some_row {o : Row} {xs : List Value} (hok : o.ok xs) (h : 0 < xs.length) : ∃ g c junk, o = some (g, c, junk) := by
  match o, hok with
  | none, hok =>
    obtain rfl : xs = [] := hok
    simp at h
  | some (g, c, junk), _ => exact ⟨g, c, junk, rfl⟩
namespace W
theorem appendO {sT el : TypeId} {z : Value} {bytes : Nat} (T : ElemT P sT el z bytes) {ty : TypeId} {s x : Operand} {d m k c2 : Nat} {p : Option Addr} {xs vs : List Value} {o : Row} {R : List Ent}
    (hs : ev e s = some (o.val m)) (hx : ev e x = some (.slice p k c2)) (hr : RdP B E L p vs) (hk : vs.length = k) (hv : ∀ u ∈ vs, u.oneCell' = true) (hk0 : 0 < k ∨ o.isSome = true)
    (hok : o.ok xs) (hm : xs.length = m) (hL : L.Perm (o.blk el xs ++ R)) (hb : (m + k) * bytes ≤ 140737488355328) (h63 : m + k ≤ 9223372036854775807) (hd : Nat.blt d n = true)
    (h : ∀ o' : Row, o'.isSome = true → o'.ok (xs ++ vs) → Tr n ((d, o'.val (m + k)) :: e) B E (o'.blk el (xs ++ vs) ++ R) K) :
    WOp P n e B E L Q (some d) (.call ⟨.builtin .append, #[s, x], #[sT, sT]⟩) ty K := by
  have hr' : RdP B E (o.blk el xs ++ R) p vs := fun w hw => hr w (hw.perm hL.symm)
  have key : WOp P n e B E (o.blk el xs ++ R) Q (some d) (.call ⟨.builtin .append, #[s, x], #[sT, sT]⟩) ty K := by
    match o, hs, hok, hk0, hr' with
    | none, hs, hok, hk0, hr' =>
      obtain rfl : xs = [] := hok
      obtain rfl : m = 0 := by simpa using hm.symm
      have hk1 : 0 < k := hk0.resolve_right (by simp)
      refine W.appendNil T hs hx hr' hk hk1 (by simpa using hb) (by omega) hd fun g c junk hc => ?_
      have := h (some (g, c, junk)) rfl (by simpa [Row.ok] using hc)
      simpa [Row.val, Row.blk] using this
    | some (g, c, junk), hs, hok, _, hr' =>
      refine W.append (L' := fun y => y :: R) T hs hx hr' hk hv (fun y => .head) hm hok hb h63 hd fun g' c' junk' hc => ?_
      exact h (some (g', c', junk')) rfl hc
  exact fun pos af g a w he hw => key pos af g a w he (hw.perm hL)
end W
end
end Go.Sym
