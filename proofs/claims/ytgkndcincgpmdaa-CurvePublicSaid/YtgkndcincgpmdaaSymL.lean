/-
  Rules of the walk, on: append that makes a new row, arrays of arrays.
-/
import Derived.Test.YtgkndcincgpmdaaSymK
namespace Go.Sym
section
variable {P : Program} {n : Nat} {e : Env} {B : World} {E : List Nat} {L L' : List Ent} {ops : Array Oper} {Q : Exit → Act → World → Prop} {rest : List Oper} {K : Act → World → Prop}
namespace V
theorem buildAN {t el ty : TypeId} {len sz : Nat} {parts : Array (Nat × Operand)} {vs : List (Nat × Value)} {z : Value} {cs : Array Value} (ht : ∀ w, (underlying t).run P w = .ok (.array len el) w) (hs : ∀ w, (sizeOf el).run P w = .ok sz w)
    (hz : ∀ w, (zeroValue t).run P w = .ok z w) (hx : ∀ a, EnvOK n e a → parts.map (fun (i, x) => (i, a.eval x)) = vs.toArray) (hf : Instr.fill (fun i => some (i * sz, sz)) z.cells vs = some cs) : VOp P n e B E L (.build t parts) ty (.agg cs) :=
  V.build hx fun w => by
    unfold Instr.build
    simp only [Sem.run_bind, hz, ht, hs, Result.andThen_ok, hf, Sem.run_pure]
theorem convN_32 {s d ty : TypeId} {x : Operand} {a : Nat} {ds : TypeDesc} (hs : ∀ w, (underlying s).run P w = .ok ds w) (hd : ∀ w, (underlying d).run P w = .ok (.int .u32) w) (hx : ev e x = some (.int .i64 (a : Int))) :
    VOp P n e B E L (.convert s d x) ty (U32 (BitVec.ofNat 32 a)) := by
  have := convI_32 (P := P) (n := n) (B := B) (E := E) (L := L) (ty := ty) hs hd hx
  rwa [BitVec.ofInt_natCast] at this
theorem min3 {x y z : Operand} {ats : Array TypeId} {ty : TypeId} {a b c : Nat} (hx : ev e x = some (.int .i64 (a : Int))) (hy : ev e y = some (.int .i64 (b : Int))) (hz : ev e z = some (.int .i64 (c : Int))) :
    VOp P n e B E L (.call ⟨.builtin .min, #[x, y, z], ats⟩) ty (NV (Nat.min (Nat.min a b) c)) :=
  bi (vs := [.int .i64 a, .int .i64 b, .int .i64 c]) (fun a he => by simp [he.eval hx, he.eval hy, he.eval hz]) fun cs w => by
    simp [builtin, Builtin.min_, Builtin.min2]
    repeat' split
    all_goals omega
theorem bstr_append (xs ys : List (BitVec 8)) : bstr xs ++ bstr ys = bstr (xs ++ ys) := by
  apply ByteArray.ext
  simp [bstr]
theorem addS {t yt ty : TypeId} {x y : Operand} {xs ys : List (BitVec 8)} (hx : ev e x = some (.string (bstr xs))) (hy : ev e y = some (.string (bstr ys))) (hb : xs.length + ys.length ≤ 9223372036854775807) :
    VOp P n e B E L (.binOp .add t x y yt) ty (.string (bstr (xs ++ ys))) := fun a w _ _ _ _ he _ => by
  have h : ((bstr xs).size : Int) + (bstr ys).size ≤ 9223372036854775807 := by rw [bstr_size, bstr_size]; omega
  simp [execOp, he.eval hx, he.eval hy, eqGuard, binOp, Op.stringOp, bstr_append, h]
end V
namespace W
/-- append to a slice that has no room. -/
theorem appendGrow {sT el : TypeId} {z : Value} {bytes : Nat} (T : ElemT P sT el z bytes) {ty : TypeId} {s x : Operand} {d m c k c2 : Nat} {p0 p : Option Addr} {xs vs : List Value}
    (hs : ev e s = some (.slice p0 m c)) (hr0 : RdP B E L p0 xs) (hm : xs.length = m) (hm0 : 0 < m) (hx : ev e x = some (.slice p k c2)) (hr : RdP B E L p vs) (hk : vs.length = k) (hk0 : 0 < k) (hg : c < m + k)
    (hb : (m + k) * bytes ≤ 140737488355328) (h63 : m + k ≤ 9223372036854775807) (hd : Nat.blt d n = true)
    (h : ∀ g' c' junk', (xs ++ vs ++ junk').length = c' → Tr n ((d, .slice (some ⟨g', 0, none⟩) (m + k) c') :: e) B E (⟨g', el, xs ++ vs ++ junk'⟩ :: L) K) :
    WOp P n e B E L Q (some d) (.call ⟨.builtin .append, #[s, x], #[sT, sT]⟩) ty K :=
  bi (vs := [.slice p0 m c, .slice p k c2]) (fun a he => by simp [he.eval hs, he.eval hx]) fun a w he hw => by
    obtain ⟨i, h1, h2, h3, h4⟩ := T.info
    obtain ⟨ad0, rfl⟩ := Option.isSome_iff_exists.1 (hr0.isSome hw (by omega))
    obtain ⟨ad, rfl⟩ := Option.isSome_iff_exists.1 (hr.isSome hw (by omega))
    have hrun := run_append_grow (P := P) w sT ty el i z T.und h1 h2 ad0 m c xs (by rw [h3]; omega) (rd_cells hr0 rfl hw) ad k c2 vs (by rw [h3, hk]; omega) (rd_cells hr rfl hw) (by omega) (by omega) (growslice_fits (by omega) (by rw [h4]; exact hb))
    have hcells : (xs.toArray ++ vs.toArray ++ Builtin.zeroCells z.cells (grownCap w (m + k) c el - (m + k))) = (xs ++ vs ++ List.replicate (grownCap w (m + k) c el - (m + k)) z).toArray := by
      rw [T.zc, zeroCells1]; simp
    rw [hcells] at hrun
    refine ⟨_, w.drew.alloc (.cells (xs ++ vs ++ List.replicate (grownCap w (m + k) c el - (m + k)) z).toArray el), fun cs => ?_, h w.heap.size (grownCap w (m + k) c el) (List.replicate (grownCap w (m + k) c el - (m + k)) z) ?_ _ _ (he.put hd _) ?_⟩
    · simp only [builtin, Sem.run_bind, Sem.run_pure, hrun, Result.andThen_ok]
    · have := grownCap_ge w (m + k) c el
      simp; omega
    · exact Hp.alloc (w := w.drew) (hw.drawn (w.drawn + 1)) el _
end W
theorem getS (l : List (BitVec 32)) (j : Nat) (h : j < l.length) : (l.map U32)[j]? = some (U32 (l.getD j 0#32)) := by
  rw [List.getElem?_map, List.getD_eq_getElem?_getD, List.getElem?_eq_getElem h]; rfl
end
end Go.Sym
