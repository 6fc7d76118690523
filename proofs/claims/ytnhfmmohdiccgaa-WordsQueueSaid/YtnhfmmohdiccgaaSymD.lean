/-
  Rules of the walk for memory: addresses, loads, stores, new blocks, append, copy, calls.
-/
import Derived.Test.YtnhfmmohdiccgaaSymC
namespace Go.Sym

/-- The place j behind p. -/
def at_ (p : Option Addr) (j : Nat) : Addr := (p.getD ⟨0, 0, none⟩).add j
theorem at_own (g o j : Nat) : at_ (some ⟨g, o, none⟩) j = ⟨g, o + j, none⟩ := by
  unfold at_ Addr.add
  simp only [Option.getD_some]
  split
  · rename_i h; subst h; rfl
  · rfl
theorem add_add (a : Addr) (i j : Nat) : (a.add i).add j = a.add (i + j) := by
  unfold Addr.add
  by_cases hi : i = 0
  · subst hi; simp
  · by_cases hj : j = 0
    · subst hj; simp
    · simp [hi, hj, Nat.add_assoc]

/-- Told of the blocks at hand, or of what stood ahead: the values vs can be read from p on. -/
def RdP (B : World) (E : List Nat) (L : List Ent) (p : Option Addr) (vs : List Value) : Prop :=
  ∀ w, Hp B E L w → ∀ j u, vs[j]? = some u → p.isSome = true ∧ w.cell? (at_ p j) = some u

theorem RdP.nil {B : World} {E : List Nat} {L : List Ent} {p : Option Addr} : RdP B E L p [] := fun _ _ j u h => by simp at h
theorem RdP.isSome {B : World} {E : List Nat} {L : List Ent} {p : Option Addr} {vs : List Value} (h : RdP B E L p vs) {w : World} (hw : Hp B E L w) (hl : 0 < vs.length) : p.isSome = true :=
  (h w hw 0 _ (List.getElem?_eq_getElem hl)).1
theorem RdP.part {B : World} {E : List Nat} {L : List Ent} {p : Option Addr} {vs : List Value} (h : RdP B E L p vs) (lo k : Nat) : RdP B E L (p.map (·.add lo)) ((vs.drop lo).take k) := fun w hw j u hu => by
  have h1 : vs[lo + j]? = some u := by
    rw [List.getElem?_take] at hu
    split at hu
    · rwa [List.getElem?_drop] at hu
    · cases hu
  obtain ⟨h2, h3⟩ := h w hw _ _ h1
  cases p with
  | none => cases h2
  | some a =>
    refine ⟨rfl, ?_⟩
    show w.cell? ((a.add lo).add j) = some u
    rw [add_add]; exact h3
theorem RdP.take {B : World} {E : List Nat} {L : List Ent} {p : Option Addr} {vs : List Value} (h : RdP B E L p vs) (k : Nat) : RdP B E L p (vs.take k) := fun w hw j u hu => by
  rw [List.getElem?_take] at hu
  split at hu
  · exact h w hw j u hu
  · cases hu
theorem Hp.cell {B : World} {E : List Nat} {L : List Ent} {w : World} (h : Hp B E L w) {g : Nat} {ty : TypeId} {cs : List Value} (hm : (⟨g, ty, cs⟩ : Ent) ∈ L) {o : Nat} {v : Value} (hv : cs[o]? = some v) : w.cell? ⟨g, o, none⟩ = some v := by
  simp [World.cell?, (h.blk _ hm).1, hv]
theorem RdP.blk {B : World} {E : List Nat} {L : List Ent} {g : Nat} {ty : TypeId} {cs : List Value} (hm : (⟨g, ty, cs⟩ : Ent) ∈ L) (o k : Nat) : RdP B E L (some ⟨g, o, none⟩) ((cs.drop o).take k) := fun w hw j u hu => by
  refine ⟨rfl, ?_⟩
  rw [at_own]
  refine hw.cell hm ?_
  rw [List.getElem?_take] at hu
  split at hu
  · rwa [List.getElem?_drop] at hu
  · cases hu
/-- What stood ahead. -/
def RdB (B : World) (p : Option Addr) (vs : List Value) : Prop := ∀ j u, vs[j]? = some u → p.isSome = true ∧ B.cell? (at_ p j) = some u
theorem at_block (p : Option Addr) (j : Nat) : (at_ p j).block = (p.getD ⟨0, 0, none⟩).block := by unfold at_ Addr.add; split <;> rfl
theorem RdP.old {B : World} {E : List Nat} {L : List Ent} {p : Option Addr} {vs : List Value} (h : RdB B p vs) (hE : ∀ a, p = some a → a.block ∉ E) : RdP B E L p vs := fun w hw j u hu => by
  obtain ⟨h1, h2⟩ := h j u hu
  refine ⟨h1, ?_⟩
  have hlt := World.block_lt_of_cell? B _ h2
  cases p with
  | none => cases h1
  | some a =>
    have hb : (at_ (some a) j).block = a.block := at_block _ _
    have := hw.old _ hlt (by rw [hb]; exact hE a rfl)
    rw [← h2]
    exact World.cell?_of_block this
theorem RdP.now {B : World} {E : List Nat} {L : List Ent} {p : Option Addr} {vs : List Value} (h : RdP B E L p vs) {w : World} (hw : Hp B E L w) : RdB w p vs := fun j u hu => h w hw j u hu

/-! ### A world's turns -/
inductive Upd (x y : Ent) : List Ent → List Ent → Prop where
  | head {L : List Ent} : Upd x y (x :: L) (y :: L)
  | tail {z : Ent} {L L' : List Ent} : Upd x y L L' → Upd x y (z :: L) (z :: L')
theorem Upd.mem {x y : Ent} {L L' : List Ent} (h : Upd x y L L') : x ∈ L := by
  induction h with
  | head => exact .head _
  | tail _ ih => exact .tail _ ih
theorem Upd.back {x y : Ent} {L L' : List Ent} (h : Upd x y L L') (hn : (L.map (·.g)).Nodup) : ∀ z ∈ L', z = y ∨ (z ∈ L ∧ z.g ≠ x.g) := by
  induction h with
  | head =>
    intro z hz
    rcases List.mem_cons.1 hz with rfl | hz
    · exact .inl rfl
    · refine .inr ⟨.tail _ hz, fun he => ?_⟩
      rw [List.map_cons, List.nodup_cons] at hn
      exact hn.1 (he ▸ List.mem_map_of_mem (f := (·.g)) hz)
  | @tail z' L0 L1 hu ih =>
    intro z hz
    rw [List.map_cons, List.nodup_cons] at hn
    rcases List.mem_cons.1 hz with rfl | hz
    · exact .inr ⟨.head _, fun he => hn.1 (he ▸ List.mem_map_of_mem (f := (·.g)) hu.mem)⟩
    · rcases ih hn.2 z hz with h | ⟨h, h'⟩
      · exact .inl h
      · exact .inr ⟨.tail _ h, h'⟩
theorem Upd.nodup {x y : Ent} {L L' : List Ent} (h : Upd x y L L') (hn : (L.map (·.g)).Nodup) (hy : y.g = x.g ∨ ∀ z ∈ L, z.g ≠ y.g) : (L'.map (·.g)).Nodup := by
  induction h with
  | head =>
    rw [List.map_cons, List.nodup_cons] at hn ⊢
    refine ⟨?_, hn.2⟩
    rcases hy with hy | hy
    · rw [hy]; exact hn.1
    · intro hm
      obtain ⟨z, hz, he⟩ := List.mem_map.1 hm
      exact hy z (.tail _ hz) he
  | @tail z' L0 L1 hu ih =>
    have hb := hu.back (List.nodup_cons.1 (by simpa using hn)).2
    rw [List.map_cons, List.nodup_cons] at hn ⊢
    refine ⟨?_, ih hn.2 (hy.imp id fun h z hz => h z (.tail _ hz))⟩
    intro hm
    obtain ⟨z, hz, he⟩ := List.mem_map.1 hm
    rcases hb z hz with rfl | ⟨h, _⟩
    · rcases hy with hy | hy
      · exact hn.1 (by rw [← he, hy]; exact List.mem_map_of_mem (f := (·.g)) hu.mem)
      · exact hy z' (.head _) he.symm
    · exact hn.1 (he ▸ List.mem_map_of_mem (f := (·.g)) h)

theorem Hp.upd {B : World} {E : List Nat} {L L' : List Ent} {w w' : World} {x y : Ent} (h : Hp B E L w) (hu : Upd x y L L') (hos : w'.os = w.os) (ht : w'.tape = w.tape) (ho : w'.output = w.output)
    (hs : w.heap.size ≤ w'.heap.size) (hk : ∀ k, k < w.heap.size → k ≠ x.g → w'.heap[k]? = w.heap[k]?) (hy : w'.heap[y.g]? = some (.cells y.cells.toArray y.ty (0, 0))) (hg : y.g = x.g ∨ w.heap.size ≤ y.g) : Hp B E L' w' := by
  have hx := h.blk x hu.mem
  refine ⟨hos.trans h.os, ht.trans h.tape, ho.trans h.output, Nat.le_trans h.size hs, fun k hk1 hk2 => ?_, fun z hz => ?_, hu.nodup h.apart (hg.imp id fun hg z hz => ?_)⟩
  · rw [hk k (Nat.lt_of_lt_of_le hk1 h.size) (fun e => ?_)]
    · exact h.old k hk1 hk2
    · subst e
      rcases hx.2 with h' | h'
      · exact hk2 h'
      · omega
  · rcases hu.back h.apart z hz with rfl | ⟨hz, hne⟩
    · refine ⟨hy, ?_⟩
      rcases hg with hg | hg
      · rw [hg]; exact hx.2
      · exact .inr (Nat.le_trans h.size hg)
    · have := h.blk z hz
      rw [hk z.g (h.lt hz) hne]
      exact this
  · have := h.lt hz
    omega
theorem Hp.alloc {B : World} {E : List Nat} {L : List Ent} {w : World} (h : Hp B E L w) (t : TypeId) (cs : List Value) : Hp B E (⟨w.heap.size, t, cs⟩ :: L) (w.alloc (.cells cs.toArray t)) := by
  refine ⟨h.os, h.tape, h.output, ?_, fun k hk1 hk2 => ?_, fun z hz => ?_, ?_⟩
  · show B.heap.size ≤ (w.heap.push _).size
    simp; have := h.size; omega
  · rw [heap_alloc_old w _ (Nat.lt_of_lt_of_le hk1 h.size)]; exact h.old k hk1 hk2
  · rcases List.mem_cons.1 hz with rfl | hz
    · exact ⟨heap_alloc_new w _, .inr h.size⟩
    · rw [heap_alloc_old w _ (h.lt hz)]; exact h.blk z hz
  · rw [List.map_cons, List.nodup_cons]
    refine ⟨fun hm => ?_, h.apart⟩
    obtain ⟨z, hz, he⟩ := List.mem_map.1 hm
    have := h.lt hz
    have he' : z.g = w.heap.size := he
    omega
theorem Hp.setRow {B : World} {E : List Nat} {L L' : List Ent} {w : World} {g : Nat} {t : TypeId} {cs cs' : List Value} (h : Hp B E L w) (hu : Upd ⟨g, t, cs⟩ ⟨g, t, cs'⟩ L L') : Hp B E L' (w.setRow g cs'.toArray) :=
  h.upd hu rfl rfl rfl (by simp) (fun k _ hk => setRow_other w g k _ hk) (setRow_heap w g cs.toArray _ t (0, 0) (h.blk _ hu.mem).1) (.inl rfl)

/-- A call's turn: what the callee says of its own world, seen from the caller's. -/
theorem Hp.call {B : World} {E : List Nat} {L N : List Ent} {w w' : World} (h : Hp B E L w) (hc : Hp w [] N w') : Hp B E (N ++ L) w' := by
  have hnew : ∀ z ∈ N, w.heap.size ≤ z.g := fun z hz => ((hc.blk z hz).2).resolve_left (by simp)
  refine ⟨hc.os.trans h.os, hc.tape.trans h.tape, hc.output.trans h.output, Nat.le_trans h.size hc.size, fun k hk1 hk2 => ?_, fun z hz => ?_, ?_⟩
  · rw [hc.old k (Nat.lt_of_lt_of_le hk1 h.size) (by simp)]; exact h.old k hk1 hk2
  · rcases List.mem_append.1 hz with hz | hz
    · exact ⟨(hc.blk z hz).1, .inr (Nat.le_trans h.size (hnew z hz))⟩
    · rw [hc.old z.g (h.lt hz) (by simp)]; exact h.blk z hz
  · rw [List.map_append, List.nodup_append]
    refine ⟨hc.apart, h.apart, fun a ha b hb => ?_⟩
    obtain ⟨x, hx, rfl⟩ := List.mem_map.1 ha
    obtain ⟨y, hy, rfl⟩ := List.mem_map.1 hb
    have h1 := hnew x hx
    have h2 := h.lt hy
    show x.g ≠ y.g
    omega
/-- The same where the callee has turned one block of the caller's. -/
theorem Hp.callW {B : World} {E : List Nat} {L L' N : List Ent} {w w' : World} {x y : Ent} (h : Hp B E L w) (hu : Upd x y L L') (hg : y.g = x.g) (hc : Hp w [x.g] (N ++ [y]) w') (hN : ∀ z ∈ N, w.heap.size ≤ z.g) : Hp B E (N ++ L') w' := by
  have hy := hc.blk y (List.mem_append_right _ (.head _))
  have h1 : Hp B E L' w' := h.upd hu hc.os hc.tape hc.output hc.size (fun k hk hne => hc.old k hk (by simp [hne])) hy.1 (.inl hg)
  refine ⟨h1.os, h1.tape, h1.output, h1.size, h1.old, fun z hz => ?_, ?_⟩
  · rcases List.mem_append.1 hz with hz | hz
    · exact ⟨(hc.blk z (List.mem_append_left _ hz)).1, .inr (Nat.le_trans h.size (hN z hz))⟩
    · exact h1.blk z hz
  · rw [List.map_append, List.nodup_append]
    have hap := hc.apart
    rw [List.map_append, List.nodup_append] at hap
    refine ⟨hap.1, h1.apart, fun a ha b hb => ?_⟩
    obtain ⟨p, hp, rfl⟩ := List.mem_map.1 ha
    obtain ⟨q, hq, rfl⟩ := List.mem_map.1 hb
    have h2 := hN p hp
    rcases hu.back h.apart q hq with rfl | ⟨h3, _⟩
    · exact hap.2.2 _ ha _ (by simp)
    · have := h.lt h3
      show p.g ≠ q.g
      omega
/-- From a walk's own start: no block that came in was turned. -/
theorem Hp.rebase {w w' : World} {N : List Ent} (h : Hp w [] N w') : Hp w [] N w' := h

section
variable {P : Program} {n : Nat} {e : Env} {B : World} {E : List Nat} {L L' : List Ent} {ops : Array Oper} {Q : Exit → Act → World → Prop} {rest : List Oper} {K : Act → World → Prop}
namespace V
/-! ### Addresses -/
theorem load1 {t ty : TypeId} {x : Operand} {p : Addr} {v : Value} (ht : ∀ w, (isAgg t).run P w = .ok false w) (hx : ev e x = some (.pointer (some p))) (hc : ∀ w, Hp B E L w → w.cell? p = some v) : VOp P n e B E L (.load t x) ty v := fun a w _ _ _ _ he hw => by
  simp [execOp, he.eval hx, Instr.loadAt, Instr.sureAddr, loadVar, ht, hc w hw]
theorem loadN {t ty : TypeId} {x : Operand} {p : Addr} {cs : List Value} (ht : ∀ w, (isAgg t).run P w = .ok true w) (hs : ∀ w, (sizeOf t).run P w = .ok cs.length w) (hx : ev e x = some (.pointer (some p)))
    (hc : ∀ w, Hp B E L w → ∀ j v, cs[j]? = some v → w.cell? (p.add j) = some v) : VOp P n e B E L (.load t x) ty (.agg cs.toArray) := fun a w _ _ _ _ he hw => by
  have hl := run_loadCells_list (P := P) w p cs (hc w hw)
  simp [execOp, he.eval hx, Instr.loadAt, Instr.sureAddr, loadVar, ht, hs, hl]
theorem cellB {g : Nat} {t : TypeId} {cs : List Value} {o : Nat} {v : Value} (hm : (⟨g, t, cs⟩ : Ent) ∈ L) (hv : cs[o]? = some v) : ∀ w, Hp B E L w → w.cell? ⟨g, o, none⟩ = some v := fun _ hw => hw.cell hm hv
theorem cellsB {g : Nat} {t : TypeId} {cs : List Value} (hm : (⟨g, t, cs⟩ : Ent) ∈ L) : ∀ w, Hp B E L w → ∀ j v, cs[j]? = some v → w.cell? ((⟨g, 0, none⟩ : Addr).add j) = some v := fun _ hw j v hv => by
  have := at_own g 0 j
  simp only [at_, Option.getD_some, Nat.zero_add] at this
  rw [this]; exact hw.cell hm hv
theorem cellR {p : Option Addr} {vs : List Value} {j : Nat} {v : Value} (h : RdP B E L p vs) (hv : vs[j]? = some v) : ∀ w, Hp B E L w → w.cell? (at_ p j) = some v := fun w hw => (h w hw j v hv).2

theorem idxA {t el ty : TypeId} {x y : Operand} {k : IntKind} {len sz g o j o' : Nat} {i : Int} (ht : ∀ w, (underlying t).run P w = .ok (.array len el) w) (hs : ∀ w, (sizeOf el).run P w = .ok sz w)
    (hx : ev e x = some (.pointer (some ⟨g, o, none⟩))) (hy : ev e y = some (.int k i)) (hi : i = (j : Int)) (hj : j < len) (ho : o + j * sz = o') : VOp P n e B E L (.indexAddr t x y) ty (.pointer (some ⟨g, o', none⟩)) := fun a w _ _ _ _ he hw => by
  subst hi
  have h1 : (0 : Int) ≤ j ∧ (j : Int) < len := ⟨by omega, by omega⟩
  have h3 : ¬ len ≤ j := by omega
  have h2 : (⟨g, o, none⟩ : Addr).add (j * sz) = ⟨g, o', none⟩ := by
    have := at_own g o (j * sz)
    simp only [at_, Option.getD_some] at this
    rw [this, ho]
  simp [execOp, he.eval hx, he.eval hy, Instr.indexAt, asIntOf, ht, hs, Instr.sureAddr, h1, h2, h3]
theorem idxS {t el ty : TypeId} {x y : Operand} {k : IntKind} {m c j : Nat} {p : Option Addr} {i : Int} (ht : ∀ w, (underlying t).run P w = .ok (.slice el) w) (hs : ∀ w, (sizeOf el).run P w = .ok 1 w)
    (hx : ev e x = some (.slice p m c)) (hy : ev e y = some (.int k i)) (hi : i = (j : Int)) (hj : j < m) (hp : p.isSome = true) : VOp P n e B E L (.indexAddr t x y) ty (.pointer (some (at_ p j))) := fun a w _ _ _ _ he hw => by
  subst hi
  cases p with
  | none => cases hp
  | some ad =>
    have h1 : (0 : Int) ≤ j ∧ (j : Int) < m := ⟨by omega, by omega⟩
    have h3 : ¬ m ≤ j := by omega
    simp [execOp, he.eval hx, he.eval hy, Instr.indexAt, asIntOf, ht, hs, h1, h3, at_]
theorem idxO {t el ty : TypeId} {x y : Operand} {k : IntKind} {m c j g o o' : Nat} {i : Int} (ht : ∀ w, (underlying t).run P w = .ok (.slice el) w) (hs : ∀ w, (sizeOf el).run P w = .ok 1 w)
    (hx : ev e x = some (.slice (some ⟨g, o, none⟩) m c)) (hy : ev e y = some (.int k i)) (hi : i = (j : Int)) (hj : j < m) (ho : o + j = o') : VOp P n e B E L (.indexAddr t x y) ty (.pointer (some ⟨g, o', none⟩)) := by
  have := idxS (P := P) (n := n) (e := e) (B := B) (E := E) (L := L) (ty := ty) ht hs hx hy hi hj rfl
  rwa [at_own, ho] at this
theorem fieldA {t ty : TypeId} {x : Operand} {f g o o' : Nat} {fs : Array Field} {fd : Field} (ht : ∀ w, (underlying t).run P w = .ok (.struct fs) w) (hf : fs[f]? = some fd) (hx : ev e x = some (.pointer (some ⟨g, o, none⟩)))
    (hp : ∀ w, (fieldPlace ⟨g, o, none⟩ fd).run P w = .ok ⟨g, o', none⟩ w) : VOp P n e B E L (.fieldAddr t x f) ty (.pointer (some ⟨g, o', none⟩)) := fun a w _ _ _ _ he hw => by
  simp [execOp, he.eval hx, Instr.fieldAt, Instr.sureAddr, ht, hf, hp]
end V
end
end Go.Sym
