/-
  Plain laws for the statements of hatchwaylaw04; rows that outlive a mark.
-/
import Derived.Test.YtnhfmmohdiccgaaDoorPlainAead
import Derived.Test.YtnhfmmohdiccgaaDoorFrame
namespace Go.Sym
/-- A row that lies outside the blocks at hand. -/
abbrev KeptRow (B : World) (E : List Nat) (p : Option Addr) (vs : List Value) : Prop := RdB B p vs ∧ ∀ a, p = some a → a.block ∉ E
theorem KeptRow.next {B w1 : World} {E : List Nat} {L : List Ent} {p : Option Addr} {vs : List Value} (hw : Hp B E L w1) (h : KeptRow B E p vs) (h0 : 0 < vs.length) : KeptRow w1 (L.map (·.g)) p vs := by
  refine ⟨(RdP.old h.1 h.2).now hw, fun a ha hm => ?_⟩
  subst ha
  obtain ⟨x, hx, hg⟩ := List.mem_map.1 hm
  have h2 := (hw.blk x hx).2
  match vs, h0 with
  | v :: vs', _ =>
    have h3 := World.block_lt_of_cell? B _ (h.1 0 v rfl).2
    have h4 : a.block < B.heap.size := h3
    rcases h2 with h2 | h2
    · exact h.2 a rfl (hg ▸ h2)
    · have h5 : B.heap.size ≤ x.g := h2
      have h6 : x.g = a.block := hg
      omega
theorem KeptRow.bytes {B w1 : World} {E : List Nat} {L : List Ent} {g m : Nat} {xs : List (BitVec 8)} (h : KeptRow B E (some ⟨g, 0, none⟩) (xs.map U8)) (hw : Hp B E L w1) (hl : xs.length = m) (hm : m ≤ 1000000) : Bytes w1 (some ⟨g, 0, none⟩) m m xs :=
  ⟨(RdP.old h.1 h.2).now hw, hl, Nat.le_refl _, by omega, fun h => by cases h⟩
/-- Bytes that came in, behind a mark. -/
theorem Bytes.next {w w1 w2 : World} {L L2 : List Ent} {a : Option Addr} {len cap : Nat} {xs : List (BitVec 8)} (h : Bytes w a len cap xs) (hw : Hp w [] L w1) (hw2 : Hp w1 (L.map (·.g)) L2 w2) : Bytes w2 a len cap xs := by
  refine ⟨?_, h.length, h.le, h.max, h.none⟩
  cases xs with
  | nil => exact fun j u h => by simp at h
  | cons x l =>
    have h1 := KeptRow.next hw ⟨h.rd, fun _ _ => by simp⟩ (by simp)
    exact (RdP.old h1.1 h1.2).now hw2
section
variable {P : Program} {n : Nat} {e : Env} {B : World} {E : List Nat} {L : List Ent} {ops : Array Oper} {Q : Exit → Act → World → Prop} {T : List Nat} {p : Plan}
/-- In a region that draws its order: a literal's bytes are made, and marked; what else stands does not turn. -/
theorem TrP.markLit {i j di dj m : Nat} {op : Op} {ty ty' t el : TypeId} {pos pos' : String} {af af' : Array Edge} {x : Operand} {cs : List Value}
    (ho : ops[i]? = some ⟨some di, op, ty, pos, af, none⟩) (hoj : ops[j]? = some ⟨some dj, .convert t t x, ty', pos', af', none⟩)
    (hx : ∀ g, ev ((di, .slice (some ⟨g, 0, none⟩) m m) :: e) x = some (.slice (some ⟨g, 0, none⟩) m m)) (hd : Nat.blt dj n = true)
    (ht : ∀ w, (underlying t).run P w = .ok (.slice el) w) (hel : ∀ w, (underlying el).run P w = .ok (.int .u8) w)
    (hb : ∀ K : Act → World → Prop, (∀ g, Tr n ((di, .slice (some ⟨g, 0, none⟩) m m) :: e) B E (⟨g, el, cs⟩ :: L) K) → WOp P n e B E L Q (some di) op ty K)
    (h : ∀ g w1, Hp B E L w1 → RdB w1 (some ⟨g, 0, none⟩) cs → g ∉ L.map (·.g) → TrP P ops Q n ((dj, .slice (some ⟨g, 0, none⟩) m m) :: (di, .slice (some ⟨g, 0, none⟩) m m) :: e) w1 (L.map (·.g)) L T p) :
    TrP P ops Q n e B E L T (.hard i (.hard j p)) := fun a he w hw => hard_op0 ho (hb _ fun g a1 wa he1 hwa => by
  have hap := hwa.apart
  rw [List.map_cons, List.nodup_cons] at hap
  have hgE := (hwa.blk _ (.head _)).2
  refine ⟨fun x => Hp B E L x ∧ ∃ f : Nat × Nat, x.heap[g]? = some (.cells cs.toArray el f) ∧ (f = (0, 0) ∨ f = (cs.length, cs.length + 1)), ⟨hwa.tail, (0, 0), (hwa.blk _ (.head _)).1, .inl rfl⟩, ⟨fun x y hx hxy => ⟨Hp.closed x y hx.1 hxy, ?_⟩, fun _ x hx => hx.1⟩, fun w2 hw2 => ?_⟩
  · obtain ⟨f, h1, h2⟩ := hx.2
    exact ⟨f, (hxy.old g (Array.getElem?_eq_some_iff.1 h1).1).trans h1, h2⟩
  obtain ⟨hw2, f, hf, hff⟩ := hw2
  have hlt : g < w2.heap.size := (Array.getElem?_eq_some_iff.1 hf).1
  have hsh : w2.shape? g = some (el, cs.length) := by
    unfold World.shape?
    rw [hf]; simp
  obtain ⟨w1, hw1, hr1, hg1, hs1, hos, htp, hout⟩ : ∃ w1, w2.freeze ⟨g, cs.length, none⟩ 1 = w1 ∧ (∀ k, k ≠ g → w1.heap[k]? = w2.heap[k]?) ∧ w1.heap[g]? = some (.cells cs.toArray el (cs.length, cs.length + 1)) ∧ w1.heap.size = w2.heap.size ∧ w1.os = w2.os ∧ w1.tape = w2.tape ∧ w1.output = w2.output := by
    refine ⟨_, rfl, ?_⟩
    unfold World.freeze
    rw [if_neg (by decide)]
    refine ⟨fun k hk => ?_, ?_, by simp, rfl, rfl, rfl⟩
    · simp only [Array.getElem?_modify]
      rw [if_neg (fun h => hk h.symm)]
    · simp only [Array.getElem?_modify]
      rw [if_pos trivial, hf]
      rcases hff with rfl | rfl
      · rfl
      · simp
  have hp1 : Hp B E L w1 := by
    refine ⟨hos.trans hw2.os, htp.trans hw2.tape, hout.trans hw2.output, by rw [hs1]; exact hw2.size, fun k hk1 hk2 => ?_, fun z hz => ?_, hap.2⟩
    · rw [hr1 k (fun he' => ?_)]
      · exact hw2.old k hk1 hk2
      · rcases hgE with h' | h'
        · exact hk2 (he' ▸ h')
        · have h'' : B.heap.size ≤ g := h'
          omega
    · rw [hr1 z.g (fun he' => hap.1 (List.mem_map.2 ⟨z, hz, he'⟩))]
      exact hw2.blk z hz
  have hrd : RdB w1 (some ⟨g, 0, none⟩) cs := by
    intro j u hu
    refine ⟨rfl, ?_⟩
    rw [at_own, Nat.zero_add]
    simp [World.cell?, hg1, hu]
  have hE1 := he1.eval (hx g)
  have hrun : ∀ pos af gd, (execOp a1.eval ⟨some dj, .convert t t x, ty', pos, af, gd⟩).run P w2 = .ok (.value (.slice (some ⟨g, 0, none⟩) m m)) w1 := fun pos af gd => by
    simp [execOp, hE1, convert, ht, hel, markStringish, hsh]
    exact hw1
  unfold wpOp
  simp only [hoj]
  rw [if_pos (by simp [Region.wanted])]
  refine .inl ?_
  unfold Oper.wp
  rw [hrun]
  exact ⟨fun y => Hp w1 (L.map (·.g)) L y, hp1.own, ⟨Hp.closed, fun _ y hy => ⟨hp1.trans hy, (cs.length, cs.length + 1), (hy.old g (by rw [hs1]; exact hlt) hap.1).trans hg1, .inr rfl⟩⟩, h g w1 hp1 hrd hap.1 _ (he1.put hd _)⟩) he hw
end
theorem Bytes.no (w : World) : Bytes w Option.none 0 0 [] := ⟨fun j u h => by simp at h, rfl, Nat.le_refl _, by omega, fun _ => ⟨rfl, rfl, rfl⟩⟩
end Go.Sym
namespace Plain
open Go.Sym
def K1 : List (BitVec 8) := 1#8 :: List.replicate 31 0#8
def N2 : List (BitVec 8) := 2#8 :: List.replicate 11 0#8
def besB : List (BitVec 8) := [98#8, 101#8, 115#8, 105#8, 100#8, 101#8]
def abcB : List (BitVec 8) := [97#8, 98#8, 99#8]
def shortB : List (BitVec 8) := [115#8, 104#8, 111#8, 114#8, 116#8]
def oneB : List (BitVec 8) := [111#8, 110#8, 101#8]
/-- What is sealed opens. -/
theorem open_seal (key nonce beside b : List (BitVec 8)) (n : Nat) (hn : b.length = n) :
    tagL key nonce beside ((sealL key nonce beside b).take (n + 16 - 16)) = (sealL key nonce beside b).drop (n + 16 - 16) ∧ streamL key 1#32 nonce ((sealL key nonce beside b).take (n + 16 - 16)) = b := by
  subst hn
  rw [Nat.add_sub_cancel, sealL_take, sealL_drop]
  exact ⟨rfl, stream_twice key nonce 1#32 b⟩
theorem seal_get (key nonce beside b : List (BitVec 8)) (j : Nat) (a : BitVec 8) (h : b[j]? = some a) : (sealL key nonce beside b)[j]? = some (a ^^^ ksAt key nonce 1#32 j) := by
  have hlt := (List.getElem?_eq_some_iff.1 h).1
  rw [sealL, List.getElem?_append_left (by rw [streamL_len]; exact hlt)]
  exact streamL_get key 1#32 nonce b j a h
/-- What is sealed, a byte of its tag changed. -/
def sealX (key nonce beside b : List (BitVec 8)) (i : Nat) (v : BitVec 8) : List (BitVec 8) := (sealL key nonce beside b).set i ((sealL key nonce beside b).getD i 0#8 ^^^ v)
theorem sealX_len (key nonce beside b : List (BitVec 8)) (i : Nat) (v : BitVec 8) : (sealX key nonce beside b i v).length = b.length + 16 := by rw [sealX, List.length_set, sealL_len]
theorem sealX_zero (key nonce beside b : List (BitVec 8)) (i : Nat) (hi : i < b.length + 16) : sealX key nonce beside b i 0#8 = sealL key nonce beside b := by
  unfold sealX
  rw [BitVec.xor_zero]
  apply List.ext_getElem?
  intro j
  rw [List.getElem?_set]
  split
  · rename_i h
    subst h
    rw [sealL_len, if_pos hi, List.getD_eq_getElem?_getD, List.getElem?_eq_getElem (by rw [sealL_len]; exact hi)]
    rfl
  · rfl
theorem tag_other (key nonce beside b : List (BitVec 8)) (n e : Nat) (hn : b.length = n) (he : e < 16) (v : BitVec 8) (hv : v ≠ 0#8) :
    ¬ tagL key nonce beside ((sealX key nonce beside b (n + e) v).take (n + 16 - 16)) = (sealX key nonce beside b (n + e) v).drop (n + 16 - 16) := by
  subst hn
  intro h
  rw [Nat.add_sub_cancel] at h
  have ht : (sealX key nonce beside b (b.length + e) v).take b.length = (sealL key nonce beside b).take b.length := by
    apply List.ext_getElem?
    intro j
    rw [List.getElem?_take, List.getElem?_take]
    split
    · rw [sealX, List.getElem?_set_ne (by omega)]
    · rfl
  rw [ht, sealL_take, ← sealL_drop] at h
  have h2 := congrArg (fun l => l[e]?) h
  simp only [List.getElem?_drop] at h2
  have hlt : b.length + e < (sealL key nonce beside b).length := by rw [sealL_len]; omega
  rw [sealX, List.getElem?_set_self hlt, List.getD_eq_getElem?_getD, List.getElem?_eq_getElem hlt] at h2
  have h3 := Option.some.inj h2
  simp only [Option.getD_some] at h3
  apply hv
  have h4 := congrArg (fun x => (sealL key nonce beside b)[b.length + e] ^^^ x) h3
  simp only [← BitVec.xor_assoc, BitVec.xor_self, BitVec.zero_xor] at h4
  exact h4.symm
end Plain
