/-
  Rules of the walk, on: append to a slice that lies anywhere in its own block, copy.
-/
import Derived.Test.YtnhfmmohdiccgaaSymH
import Derived.Laws.CopyRow
import Derived.Laws.IdiomCopy
namespace Go.Sym
section
variable {P : Program} {n : Nat} {e : Env} {B : World} {E : List Nat} {L L' : List Ent} {ops : Array Oper} {Q : Exit → Act → World → Prop} {rest : List Oper} {K : Act → World → Prop}
namespace V
/-- A whole array as a slice. -/
theorem sliceW {t el ty : TypeId} {x : Operand} {len sz g : Nat} (ht : ∀ w, (underlying t).run P w = .ok (.array len el) w) (hs : ∀ w, (sizeOf el).run P w = .ok sz w)
    (hx : ev e x = some (.pointer (some ⟨g, 0, none⟩))) : VOp P n e B E L (.slice t x none none none) ty (.slice (some ⟨g, 0, none⟩) len len) := by
  have := sliceA (P := P) (n := n) (B := B) (E := E) (L := L) (ty := ty) (lo := none) (hi := none) (vl := none) (vh := none) (l := 0) (h := len) ht hs hx rfl rfl rfl rfl (Nat.zero_le _) (Nat.le_refl _)
  simpa using this
/-- A part of an array as a slice. -/
theorem sliceP {t el ty : TypeId} {x : Operand} {lo hi : Option Operand} {vl vh : Option Value} {len sz l h g o o' m' c' : Nat} (ht : ∀ w, (underlying t).run P w = .ok (.array len el) w) (hs : ∀ w, (sizeOf el).run P w = .ok sz w)
    (hx : ev e x = some (.pointer (some ⟨g, o, none⟩))) (hvl : evo e lo = some vl) (hvh : evo e hi = some vh) (hl : bnd vl 0 l) (hh : bnd vh len h) (h1 : l ≤ h) (h2 : h ≤ len) (hne : l < len) (ho : o + l * sz = o') (hm : h - l = m') (hc : len - l = c') :
    VOp P n e B E L (.slice t x lo hi none) ty (.slice (some ⟨g, o', none⟩) m' c') := by
  have := sliceA (P := P) (n := n) (B := B) (E := E) (L := L) (ty := ty) ht hs hx hvl hvh hl hh h1 h2
  rw [if_neg (by omega), ho, hm, hc] at this
  exact this
end V
namespace W
/-- append to a slice that lies somewhere in its own block. -/
theorem appendAt {sT el : TypeId} {z : Value} {bytes : Nat} (T : ElemT P sT el z bytes) {ty : TypeId} {s x : Operand} {d g o m c k c2 : Nat} {p : Option Addr} {pre xs junk vs : List Value} {L' : Ent → List Ent}
    (hs : ev e s = some (.slice (some ⟨g, o, none⟩) m c)) (hx : ev e x = some (.slice p k c2)) (hr : RdP B E L p vs) (hk : vs.length = k) (hk0 : 0 < k) (hv : ∀ u ∈ vs, u.oneCell' = true)
    (hu : ∀ y, Upd ⟨g, el, pre ++ xs ++ junk⟩ y L (L' y)) (ho : pre.length = o) (hm : xs.length = m) (hc : c ≤ (xs ++ junk).length) (hb : (m + k) * bytes ≤ 140737488355328) (h63 : m + k ≤ 9223372036854775807) (hd : Nat.blt d n = true)
    (h : ∀ g' o' c' pre' junk', pre'.length = o' → m + k ≤ c' → c' ≤ ((xs ++ vs) ++ junk').length → Tr n ((d, .slice (some ⟨g', o', none⟩) (m + k) c') :: e) B E (L' ⟨g', el, pre' ++ (xs ++ vs) ++ junk'⟩) K) :
    WOp P n e B E L Q (some d) (.call ⟨.builtin .append, #[s, x], #[sT, sT]⟩) ty K :=
  bi (vs := [.slice (some ⟨g, o, none⟩) m c, .slice p k c2]) (fun a he => by simp [he.eval hs, he.eval hx]) fun a w he hw => by
    obtain ⟨i, h1, h2, h3, h4⟩ := T.info
    have hblk := (hw.blk _ (hu ⟨g, el, []⟩).mem).1
    have hadd : ∀ j, (⟨g, o, none⟩ : Addr).add j = ⟨g, o + j, none⟩ := fun j => by
      have := at_own g o j
      simpa only [at_, Option.getD_some] using this
    have hxs : ∀ j v, xs[j]? = some v → w.cell? ((⟨g, o, none⟩ : Addr).add j) = some v := fun j v hj => by
      rw [hadd]
      exact hw.cell (hu ⟨g, el, []⟩).mem (by
        rw [List.append_assoc, List.getElem?_append_right (by omega), ho, Nat.add_sub_cancel_left, List.getElem?_append_left (List.getElem?_eq_some_iff.1 hj).1]; exact hj)
    obtain ⟨ad, rfl⟩ := Option.isSome_iff_exists.1 (hr.isSome hw (by omega))
    have hnews := rd_cells hr rfl hw
    by_cases hroom : m + k ≤ c
    · have hlj : k ≤ junk.length := by simp at hc; omega
      have hf := run_firstCells_some (P := P) w i.size k ad k c2 vs (by rw [h3, hk]; omega) hnews
      have hst := run_storeCells_at P g (o + m) el vs 0 (pre ++ xs ++ junk).toArray w hblk (by simp; omega) hv
      have hnew : (pre ++ xs ++ junk).toArray.toList.take (o + m + 0) ++ vs ++ (pre ++ xs ++ junk).toArray.toList.drop (o + m + 0 + vs.length) = pre ++ (xs ++ vs) ++ junk.drop k := by
        simp only [Nat.add_zero]
        have e1 : o + m = (pre ++ xs).length := by simp [ho, hm]
        rw [e1, List.take_left, hk, List.drop_append, List.drop_eq_nil_of_le (by omega)]
        simp
      rw [hnew] at hst
      have hrun : (Builtin.append_ #[sT, sT] ty #[.slice (some ⟨g, o, none⟩) m c, .slice (some ad) k c2]).run P w = .ok (.slice (some ⟨g, o, none⟩) (m + k) c) (w.setRow g (pre ++ (xs ++ vs) ++ junk.drop k).toArray) := by
        have hf' := hf
        rw [h3] at hf'
        have hst' := hst
        simp only [List.append_assoc] at hst' ⊢
        simp [Builtin.append_, run_underlying T.und, T.size, typeInfo, h1, Builtin.lenOf, hroom, hf', hadd, hst']
      refine ⟨_, _, fun cs => ?_, h g o c pre (junk.drop k) ho hroom ?_ _ _ (he.put hd _) (hw.setRow (hu _))⟩
      · simp only [builtin, Sem.run_bind, Sem.run_pure, hrun, Result.andThen_ok]
      · simp at hc ⊢; omega
    · have hrun := run_append_grow (P := P) w sT ty el i z T.und h1 h2 ⟨g, o, none⟩ m c xs (by rw [h3]; omega) hxs ad k c2 vs (by rw [h3, hk]; omega) hnews (by omega) (by omega) (growslice_fits (by omega) (by rw [h4]; exact hb))
      have hcells : (xs.toArray ++ vs.toArray ++ Builtin.zeroCells z.cells (grownCap w (m + k) c el - (m + k))) = ([] ++ (xs ++ vs) ++ List.replicate (grownCap w (m + k) c el - (m + k)) z).toArray := by
        rw [T.zc, zeroCells1]; simp
      rw [hcells] at hrun
      refine ⟨_, w.drew.alloc (.cells ([] ++ (xs ++ vs) ++ List.replicate (grownCap w (m + k) c el - (m + k)) z).toArray el), fun cs => ?_, h w.heap.size 0 (grownCap w (m + k) c el) [] (List.replicate (grownCap w (m + k) c el - (m + k)) z) rfl (grownCap_ge w (m + k) c el) ?_ _ _ (he.put hd _) ?_⟩
      · simp only [builtin, Sem.run_bind, Sem.run_pure, hrun, Result.andThen_ok]
      · have := grownCap_ge w (m + k) c el
        simp; omega
      · exact (hw.drawn (w.drawn + 1)).upd (w := w.drew) (hu _) rfl rfl rfl (by simp) (fun k hk _ => heap_alloc_old w.drew _ hk) (heap_alloc_new w.drew _) (.inr (Nat.le_refl _))
/-- copy into one's own block. -/
theorem copy {sT el tb : TypeId} {z : Value} {bytes : Nat} (T : ElemT P sT el z bytes) {ty : TypeId} {s x : Operand} {d g o m c k c2 q : Nat} {p : Option Addr} {cs vs cs' : List Value} {L' : List Ent} {dst : Option Tmp} {e' : Env}
    (hs : ev e s = some (.slice (some ⟨g, o, none⟩) m c)) (hx : ev e x = some (.slice p k c2)) (hr : RdP B E L p vs) (hk : vs.length = k) (hv : ∀ u ∈ vs, u.oneCell' = true) (hq : q = Nat.min k m)
    (hu : Upd ⟨g, tb, cs⟩ ⟨g, tb, cs'⟩ L L') (hf : o + q ≤ cs.length) (hcs : cs.take o ++ vs.take q ++ cs.drop (o + q) = cs') (hdst : (dst = none ∧ e' = e) ∨ (dst = some d ∧ e' = (d, .int .i64 (q : Int)) :: e)) (hd : Nat.blt d n = true)
    (h : Tr n e' B E L' K) :
    WOp P n e B E L Q dst (.call ⟨.builtin .copy, #[s, x], #[sT, sT]⟩) ty K :=
  bi (vs := [.slice (some ⟨g, o, none⟩) m c, .slice p k c2]) (fun a he => by simp [he.eval hs, he.eval hx]) fun a w he hw => by
    obtain ⟨i, h1, h2, h3, h4⟩ := T.info
    have hblk := (hw.blk _ hu.mem).1
    have hql : (vs.take q).length = q := by
      rw [List.length_take, hk, hq]
      exact Nat.min_eq_left (Nat.min_le_left _ _)
    have hput : ∀ a : Act, EnvOK n e a → EnvOK n e' (a.put dst (.int .i64 (q : Int))) := fun a he => by
      rcases hdst with ⟨rfl, rfl⟩ | ⟨rfl, rfl⟩
      · exact he
      · exact he.put hd _
    have hrun : (Builtin.copy_ #[sT, sT] ty #[.slice (some ⟨g, o, none⟩) m c, .slice p k c2]).run P w = .ok (.int .i64 (q : Int)) (w.setRow g cs'.toArray) := by
      by_cases h0 : q = 0
      · have hr0 := run_copy_none (P := P) w sT sT ty el (some ⟨g, o, none⟩) p m c k c2 T.und (by rw [h1]; simp [h3]) (by rw [← hq]; exact h0)
        have e1 : w.setRow g cs'.toArray = w := by
          rw [← hcs, h0]
          simp only [List.take_zero, List.append_nil, Nat.add_zero, List.take_append_drop]
          unfold World.setRow
          have : w.heap.modify g (fun o => match o with | .cells _ t f => .cells cs.toArray t f | o => o) = w.heap := by
            apply Array.ext
            · simp
            · intro j hj1 hj2
              by_cases hgj : g = j
              · subst hgj
                rw [Array.getElem_modify_self]
                have := Array.getElem?_eq_some_iff.1 hblk
                obtain ⟨_, h5⟩ := this
                rw [h5]
              · rw [Array.getElem_modify_of_ne hgj]
          exact congrArg (fun hp => ({ w with heap := hp } : World)) this
        rw [e1, hr0, h0]; rfl
      · have hkq : q ≤ k := by rw [hq]; exact Nat.min_le_left _ _
        obtain ⟨ad, rfl⟩ := Option.isSome_iff_exists.1 (hr.isSome hw (by omega))
        have := run_copy_row (P := P) w sT sT ty el g o m c ad k c2 cs.toArray tb (vs.take q) T.und (by rw [h1]; simp [h3]) hblk (by rw [hql]; exact hq)
          (fun j v hj => rd_cells hr rfl hw j v (by
            rw [List.getElem?_take] at hj
            split at hj
            · exact hj
            · cases hj)) (by rw [hql]; simpa using hf) (fun v hv' => hv v (List.mem_of_mem_take hv'))
        rw [hql] at this
        rw [this]
        simp only [hcs]
        rfl
    refine ⟨_, _, fun cs => ?_, h _ _ (hput a he) (hw.setRow hu)⟩
    simp only [builtin, Sem.run_bind, Sem.run_pure, hrun, Result.andThen_ok]
end W
end
end Go.Sym
