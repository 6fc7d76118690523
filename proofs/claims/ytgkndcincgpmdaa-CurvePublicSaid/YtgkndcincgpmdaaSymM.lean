/-
  Rules of the walk, on: structs of arrays, append of nothing, zeros appended to a row that may be nil.
-/
import Derived.Test.YtgkndcincgpmdaaSymL
namespace Go.Sym
section
variable {P : Program} {n : Nat} {e : Env} {B : World} {E : List Nat} {L L' : List Ent} {ops : Array Oper} {Q : Exit → Act → World → Prop} {rest : List Oper} {K : Act → World → Prop}
theorem fold_put (o : Nat) : ∀ (l : List Value) (k : Nat) (pre mid post : List Value), pre.length = o + k → mid.length = l.length →
    (l.zipIdx k).foldl (fun (cs : Array Value) (x : Value × Nat) => cs.setIfInBounds (o + x.2) x.1) (pre ++ mid ++ post).toArray = (pre ++ l ++ post).toArray
  | [], k, pre, mid, post, _, hm => by
    obtain rfl : mid = [] := List.eq_nil_of_length_eq_zero hm
    rfl
  | v :: l, k, pre, mid, post, hp, hm => by
    obtain ⟨q, mid, rfl⟩ : ∃ q r, mid = q :: r := by
      cases mid with
      | nil => simp at hm
      | cons q r => exact ⟨q, r, rfl⟩
    rw [List.zipIdx_cons, List.foldl_cons]
    have h1 : (pre ++ (q :: mid) ++ post).toArray.setIfInBounds (o + k) v = ((pre ++ [v]) ++ mid ++ post).toArray := by
      rw [List.setIfInBounds_toArray, ← hp]
      simp
    simp only [h1]
    rw [fold_put o l (k + 1) (pre ++ [v]) mid post (by simp [hp]; omega) (by simpa using hm)]
    simp
/-- One part put in its place. -/
theorem fill_part {place : Nat → Option (Nat × Nat)} {i o sz : Nat} {a pre mid post : List Value} {rest : List (Nat × Value)} {z : Value} (hz : z.cells = a.toArray) (hp : place i = some (o, sz)) (ha : a.length = sz) (hpre : pre.length = o) (hm : mid.length = sz) :
    Instr.fill place (pre ++ mid ++ post).toArray ((i, z) :: rest) = Instr.fill place (pre ++ a ++ post).toArray rest := by
  have h1 : ¬ (z.cells.size ≠ sz ∨ o + z.cells.size > (pre ++ mid ++ post).toArray.size) := by
    rw [hz]
    simp
    omega
  have h2 : z.cells.zipIdx.foldl (fun (cs : Array Value) (x : Value × Nat) => cs.setIfInBounds (o + x.2) x.1) (pre ++ mid ++ post).toArray = (pre ++ a ++ post).toArray := by
    have := fold_put o a 0 pre mid post (by omega) (by omega)
    rw [hz, ← this]
    simp
  simp only [Instr.fill, hp]
  rw [if_neg (by simpa using h1)]
  exact congrArg (fun c => Instr.fill place c rest) h2
theorem fill_two {place : Nat → Option (Nat × Nat)} {s1 s2 : Nat} {z : Array Value} {a b : List Value} (h0 : place 0 = some (0, s1)) (h1 : place 1 = some (s1, s2)) (ha : a.length = s1) (hb : b.length = s2) (hz : z.size = s1 + s2) :
    Instr.fill place z [(0, .agg a.toArray), (1, .agg b.toArray)] = some (a ++ b).toArray := by
  have hz' : z = ([] ++ z.toList.take s1 ++ z.toList.drop s1).toArray := by simp
  have hl1 : (z.toList.take s1).length = s1 := by simp; omega
  have hl2 : (z.toList.drop s1).length = s2 := by simp; omega
  rw [hz', fill_part (a := a) rfl h0 ha rfl hl1]
  have h2 : ([] ++ a ++ z.toList.drop s1).toArray = (a ++ z.toList.drop s1 ++ []).toArray := by simp
  rw [h2, fill_part (a := b) rfl h1 hb ha hl2]
  simp [Instr.fill]
theorem fill_one {place : Nat → Option (Nat × Nat)} {s1 : Nat} {z a : List Value} (h0 : place 0 = some (0, s1)) (ha : a.length = s1) (hz : s1 ≤ z.length) :
    Instr.fill place z.toArray [(0, .agg a.toArray)] = some (a ++ z.drop s1).toArray := by
  have hz' : z.toArray = ([] ++ z.take s1 ++ z.drop s1).toArray := by simp
  have hl1 : (z.take s1).length = s1 := by simp; omega
  rw [hz', fill_part (a := a) rfl h0 ha rfl hl1]
  simp [Instr.fill]
namespace V
theorem cellsO {g o : Nat} {t : TypeId} {all pre cs post : List Value} (hm : (⟨g, t, all⟩ : Ent) ∈ L) (he : all = pre ++ cs ++ post) (ho : pre.length = o) : ∀ w, Hp B E L w → ∀ j v, cs[j]? = some v → w.cell? ((⟨g, o, none⟩ : Addr).add j) = some v := fun _ hw j v hv => by
  have := at_own g o j
  simp only [at_, Option.getD_some] at this
  rw [this]
  subst he
  have hlt := (List.getElem?_eq_some_iff.1 hv).1
  exact hw.cell hm (by rw [List.append_assoc, List.getElem?_append_right (by omega), ← ho, Nat.add_sub_cancel_left, List.getElem?_append_left hlt]; exact hv)
end V
namespace V
theorem convB_64 {s d ty : TypeId} {x : Operand} {a : Nat} {ds : TypeDesc} (hs : ∀ w, (underlying s).run P w = .ok ds w) (hd : ∀ w, (underlying d).run P w = .ok (.int .u64) w) (hx : ev e x = some (.int .i64 (a : Int))) :
    VOp P n e B E L (.convert s d x) ty (U64 (BitVec.ofNat 64 a)) := by
  have := convI_64 (P := P) (n := n) (B := B) (E := E) (L := L) (ty := ty) hs hd hx
  rwa [BitVec.ofInt_natCast] at this
end V
theorem Tr.permL {G : Act → World → Prop} (hp : L.Perm L') (h : Tr n e B E L' G) : Tr n e B E L G := fun a w he hw => h a w he (hw.perm hp)
theorem Row.ok_zero {o : Row} {xs : List Value} (h : o.ok xs) : o.ok (xs ++ []) := by rw [List.append_nil]; exact h
namespace W
/-- append to a row that may be nil; what is appended may be nothing. -/
theorem appendR {sT el : TypeId} {z : Value} {bytes : Nat} (T : ElemT P sT el z bytes) {ty : TypeId} {s x : Operand} {d m k c2 : Nat} {p : Option Addr} {xs vs : List Value} {o : Row} {R : List Ent}
    (hs : ev e s = some (o.val m)) (hx : ev e x = some (.slice p k c2)) (hr : RdP B E L p vs) (hk : vs.length = k) (hv : ∀ u ∈ vs, u.oneCell' = true)
    (hok : o.ok xs) (hm : xs.length = m) (hL : L.Perm (o.blk el xs ++ R)) (hb : (m + k) * bytes ≤ 140737488355328) (h63 : m + k ≤ 9223372036854775807) (hd : Nat.blt d n = true)
    (h : ∀ o' : Row, o'.ok (xs ++ vs) → Tr n ((d, o'.val (m + k)) :: e) B E (o'.blk el (xs ++ vs) ++ R) K) :
    WOp P n e B E L Q (some d) (.call ⟨.builtin .append, #[s, x], #[sT, sT]⟩) ty K := by
  by_cases hc : 0 < k ∨ o.isSome = true
  · exact appendO T hs hx hr hk hv hc hok hm hL hb h63 hd fun o' _ hok' => h o' hok'
  · obtain rfl : k = 0 := by omega
    obtain rfl : vs = [] := List.eq_nil_of_length_eq_zero hk
    have ho : o = none := by
      cases o with
      | none => rfl
      | some _ => exact absurd (.inr rfl) hc
    subst ho
    obtain rfl : xs = [] := hok
    obtain rfl : m = 0 := by simpa using hm.symm
    have hs' : ev e s = some (.slice none 0 0) := hs
    refine bi (vs := [.slice none 0 0, .slice p 0 c2]) (fun a he => by simp [he.eval hs', he.eval hx]) fun a w he hw => ?_
    obtain ⟨i, h1, h2, h3, h4⟩ := T.info
    have hrun : (Builtin.append_ #[sT, sT] ty #[.slice none 0 0, .slice p 0 c2]).run P w = .ok (.slice none 0 0) w := by
      have hf : ∀ ad c, (Builtin.firstCells i.size 0 (.slice (some ad) 0 c)).run P w = .ok #[] w := fun ad c => run_firstCells_some (P := P) w i.size 0 ad 0 c [] (by simp) (by simp)
      rw [h3] at hf
      cases p with
      | none => simp [Builtin.append_, run_underlying T.und, T.size, typeInfo, h1, Builtin.lenOf, Builtin.firstCells, storeCells]
      | some ad => simp [Builtin.append_, run_underlying T.und, T.size, typeInfo, h1, Builtin.lenOf, hf, storeCells]
    refine ⟨_, _, fun cs => ?_, h none rfl _ _ (he.put hd _) (by simpa [Row.blk] using hw.perm hL)⟩
    simp only [builtin, Sem.run_bind, Sem.run_pure, hrun, Result.andThen_ok]
    rfl
/-- Zeros appended to a row that may be nil; they may be none. -/
theorem appendZR {sT el tn : TypeId} {z : Value} {bytes : Nat} (T : ElemT P sT el z bytes) (htn : P.underlying tn = some (.int .i64)) (hz1 : z.oneCell' = true) {ty : TypeId} {s x : Operand} {d m k : Nat} {i : Int} {xs : List Value} {o : Row} {R : List Ent}
    (hs : ev e s = some (o.val m)) (hx : ev e x = some (.int .i64 i)) (hi : i = (k : Int)) (hok : o.ok xs) (hm : xs.length = m) (hL : L.Perm (o.blk el xs ++ R))
    (hb : (m + k) * bytes ≤ 140737488355328) (hk : k * bytes ≤ 140737488355328) (h63 : m + k ≤ 9223372036854775807) (hd : Nat.blt d n = true)
    (h : ∀ o' : Row, o'.ok (xs ++ List.replicate k z) → Tr n ((d, o'.val (m + k)) :: e) B E (o'.blk el (xs ++ List.replicate k z) ++ R) K) :
    WOp P n e B E L Q (some d) (.call ⟨.builtin .append, #[s, x], #[sT, tn]⟩) ty K := by
  have key : WOp P n e B E (o.blk el xs ++ R) Q (some d) (.call ⟨.builtin .append, #[s, x], #[sT, tn]⟩) ty K := by
    match o, hs, hok with
    | none, hs, hok =>
      obtain rfl : xs = [] := hok
      obtain rfl : m = 0 := by simpa using hm.symm
      have hs' : ev e s = some (.slice none 0 0) := hs
      by_cases hk0 : 0 < k
      · refine appendNilZ T htn hs' hx hi hk0 hk (by omega) hd fun g c junk hc => ?_
        have := h (some (g, c, junk)) (by simpa [Row.ok] using hc)
        simpa [Row.val, Row.blk] using this
      · obtain rfl : k = 0 := by omega
        subst hi
        refine bi (vs := [.slice none 0 0, .int .i64 ((0 : Nat) : Int)]) (fun a he => by simp [he.eval hs', he.eval hx]) fun a w he hw => ?_
        obtain ⟨inf, h1, h2, h3, h4⟩ := T.info
        have hw0 : IntKind.i64.wrap 0 = 0 := V.wrap_id (by omega) (by omega)
        have hrun : (Builtin.append_ #[sT, tn] ty #[.slice none 0 0, .int .i64 ((0 : Nat) : Int)]).run P w = .ok (.slice none 0 0) w := by
          simp [Builtin.append_, run_underlying T.und, run_underlying htn, T.size, typeInfo, h1, asInt, asIntOf, hw0, storeCells]
        refine ⟨_, _, fun cs => ?_, h none rfl _ _ (he.put hd _) (by simpa [Row.blk] using hw)⟩
        simp only [builtin, Sem.run_bind, Sem.run_pure, hrun, Result.andThen_ok]
        rfl
    | some (g, c, junk), hs, hok =>
      refine appendZ (L' := fun y => y :: R) T htn hz1 hs hx hi (fun y => .head) hm hok hb hk h63 hd fun g' c' junk' hc => ?_
      exact h (some (g', c', junk')) hc
  exact fun pos af g a w he hw => key pos af g a w he (hw.perm hL)
end W
end
end Go.Sym
