/-
  Contracts of hatchwayref03: trim, Carry, Plus, Times, Number, Bytes. (Printed by a program of this session over its walk printer.)
-/
import Derived.Test.YtgkndcincgpmdaaSymK
import Derived.Test.YtgkndcincgpmdaaPlainRef3b
import Derived.Test.YtgkndcincgpmdaaFacts
import Derived.Test.YtgkndcincgpmdaaWordsB
namespace Go.Proofs.Ytgkndcincgpmdaa
open Go.Sym Plain
set_option linter.unusedVariables false
set_option maxRecDepth 20000

theorem trim_any (p : Option Addr) (m c : Nat) (xs : List Nat) (w : World) (hx : Nums w p m c xs) (hm : m ≤ 4611686018427387904) :
    Calls Try.prog 53 [.slice p m c].toArray w fun r w' => r = .returned (.slice p (trimL xs).length c) ∧ Hp w [] [] w' := by
  have hrd := hx.old (L := [])
  have hxl := hx.length
  have hle := hx.le
  refine Tr.enter Try.func53 rfl Try.ntmps53 rfl (Hp.refl w) ?_
  refine Tr.seq ?_
  refine Tr.region ?_
  refine Tr.val (V.assign rfl) rfl ?_
  refine Tr.lNil ?_
  refine Tr.thenN ?_
  refine Tr.seq ?_
  refine Tr.block ?_
  refine Tr.loop (ι := Nat) (fun k => k ≤ m ∧ trimL (xs.take k) = trimL xs) (fun k => [(0, .slice p k c)]) (fun k => []) (fun k => k) m ⟨Nat.le_refl _, by rw [List.take_of_length_le (by omega)]⟩ (lk_cons rfl (lk_nil _)) (List.Sublist.refl _) fun k hI => ?_
  obtain ⟨hkm, hkt⟩ := hI
  have h3 : k = 0 ∨ (∃ j a, k = j + 1 ∧ xs[j]? = some a ∧ a ≠ 0) ∨ (∃ j, k = j + 1 ∧ xs[j]? = some 0) := by
    cases k with
    | zero => exact .inl rfl
    | succ j =>
      obtain ⟨a, ha⟩ : ∃ a, xs[j]? = some a := ⟨_, List.getElem?_eq_getElem (by omega)⟩
      by_cases h0 : a = 0
      · subst h0; exact .inr (.inr ⟨j, rfl, ha⟩)
      · exact .inr (.inl ⟨j, a, rfl, ha, h0⟩)
  rcases h3 with rfl | ⟨j, a, rfl, ha, h0⟩ | ⟨j, rfl, ha⟩
  · refine Tr.seq ?_
    refine Tr.seq ?_
    refine Tr.region ?_
    refine Tr.val (V.move rfl) rfl ?_
    refine Tr.val (V.len Try.runUnderlying53 rfl) rfl ?_
    refine Tr.val (V.gtr (b := false) rfl rfl (decide_eq_false (by omega))) rfl ?_
    refine Tr.val (V.move rfl) rfl ?_
    refine Tr.skipG rfl rfl rfl ?_
    refine Tr.skipG rfl rfl rfl ?_
    refine Tr.skipG rfl rfl rfl ?_
    refine Tr.skipG rfl rfl rfl ?_
    refine Tr.skipG rfl rfl rfl ?_
    refine Tr.skipG rfl rfl rfl ?_
    refine Tr.skipG rfl rfl rfl ?_
    refine Tr.val (V.pick rfl rfl) rfl ?_
    refine Tr.lNil ?_
    refine Tr.thenN ?_
    refine Tr.condF rfl ?_
    refine Tr.exit ?_
    refine Tr.thenX ?_
    refine Tr.thenX ?_
    refine Tr.inHit ?_
    refine Tr.thenN ?_
    refine Tr.seq ?_
    refine Tr.region ?_
    refine Tr.val (V.move rfl) rfl ?_
    refine Tr.val (V.assign rfl) rfl ?_
    refine Tr.lNil ?_
    refine Tr.thenN ?_
    refine Tr.ret ?_
    refine Tr.out1 rfl (Res.tmp rfl) fun w hw => ?_
    exact ⟨by rw [← hkt]; rfl, hw⟩
  · have hp := hx.some (by omega)
    refine Tr.seq ?_
    refine Tr.seq ?_
    refine Tr.region ?_
    refine Tr.val (V.move rfl) rfl ?_
    refine Tr.val (V.len Try.runUnderlying53 rfl) rfl ?_
    refine Tr.val (V.gtr (b := true) rfl rfl (decide_eq_true (by omega))) rfl ?_
    refine Tr.val (V.move rfl) rfl ?_
    refine Tr.valG rfl (V.move rfl) rfl ?_
    refine Tr.valG rfl (V.move rfl) rfl ?_
    refine Tr.valG rfl (V.len Try.runUnderlying53 rfl) rfl ?_
    refine Tr.valG rfl (V.subN (b := 1) rfl rfl (by omega) (by omega)) rfl ?_
    refine Tr.valG rfl (V.idxS (j := j) Try.runUnderlying53 Try.sizeOf3 rfl rfl (by omega) (by omega) hp) rfl ?_
    refine Tr.valG rfl (V.load1 Try.isAgg3 rfl (V.cellR hrd (by rw [List.getElem?_map, ha]; rfl))) rfl ?_
    refine Tr.valG rfl (V.eql (b := false) rfl rfl (decide_eq_false (by omega))) rfl ?_
    refine Tr.val (V.pick rfl rfl) rfl ?_
    refine Tr.lNil ?_
    refine Tr.thenN ?_
    refine Tr.condF rfl ?_
    refine Tr.exit ?_
    refine Tr.thenX ?_
    refine Tr.thenX ?_
    refine Tr.inHit ?_
    refine Tr.thenN ?_
    refine Tr.seq ?_
    refine Tr.region ?_
    refine Tr.val (V.move rfl) rfl ?_
    refine Tr.val (V.assign rfl) rfl ?_
    refine Tr.lNil ?_
    refine Tr.thenN ?_
    refine Tr.ret ?_
    refine Tr.out1 rfl (Res.tmp rfl) fun w hw => ?_
    exact ⟨by rw [← hkt, List.take_add_one, ha, show xs.take j ++ (some a).toList = xs.take j ++ [a] from rfl, trimL_last a h0, List.length_append, List.length_take, Nat.min_eq_left (by omega)]; rfl, hw⟩
  · have hp := hx.some (by omega)
    have hnx : trimL (xs.take j) = trimL xs := by
      rw [← hkt, List.take_add_one, ha]
      exact (trimL_zero _).symm
    have hsl : Value.slice p (j + 1 - 1) c = Value.slice p j c := by rw [Nat.add_sub_cancel]
    refine Tr.seq ?_
    refine Tr.seq ?_
    refine Tr.region ?_
    refine Tr.val (V.move rfl) rfl ?_
    refine Tr.val (V.len Try.runUnderlying53 rfl) rfl ?_
    refine Tr.val (V.gtr (b := true) rfl rfl (decide_eq_true (by omega))) rfl ?_
    refine Tr.val (V.move rfl) rfl ?_
    refine Tr.valG rfl (V.move rfl) rfl ?_
    refine Tr.valG rfl (V.move rfl) rfl ?_
    refine Tr.valG rfl (V.len Try.runUnderlying53 rfl) rfl ?_
    refine Tr.valG rfl (V.subN (b := 1) rfl rfl (by omega) (by omega)) rfl ?_
    refine Tr.valG rfl (V.idxS (j := j) Try.runUnderlying53 Try.sizeOf3 rfl rfl (by omega) (by omega) hp) rfl ?_
    refine Tr.valG rfl (V.load1 Try.isAgg3 rfl (V.cellR hrd (by rw [List.getElem?_map, ha]; rfl))) rfl ?_
    refine Tr.valG rfl (V.eql (b := true) rfl rfl (decide_eq_true (by omega))) rfl ?_
    refine Tr.val (V.pick rfl rfl) rfl ?_
    refine Tr.lNil ?_
    refine Tr.thenN ?_
    refine Tr.condT rfl ?_
    refine Tr.skip ?_
    refine Tr.thenN ?_
    refine Tr.block ?_
    refine Tr.region ?_
    refine Tr.val (V.move rfl) rfl ?_
    refine Tr.val (V.move rfl) rfl ?_
    refine Tr.val (V.len Try.runUnderlying53 rfl) rfl ?_
    refine Tr.val (V.subN (b := 1) rfl rfl (by omega) (by omega)) rfl ?_
    refine Tr.val (V.cut Try.runUnderlying53 Try.sizeOf3 rfl rfl (by omega)) rfl ?_
    refine Tr.val (V.assign rfl) rfl ?_
    refine Tr.lNil ?_
    refine Tr.inN ?_
    exact Tr.again j ⟨by omega, hnx⟩ (by omega) (lk_cons (congrArg some hsl) (lk_nil _)) (List.Sublist.refl _)

theorem carry_any (p : Option Addr) (m c : Nat) (xs : List Nat) (w : World) (hx : Nums w p m c xs) (hm : m ≤ 100000) (hb : Bnd xs 1099511627776) :
    Calls Try.prog 57 [.slice p m c].toArray w (NumOut 3 w (num xs)) := by
  have hrd := hx.old (L := [])
  have hxl := hx.length
  have hle := hx.le
  refine Tr.enter Try.func57 rfl Try.ntmps57 rfl (Hp.refl w) ?_
  refine Tr.seq ?_
  refine Tr.region ?_
  refine Tr.val (V.assign rfl) rfl ?_
  refine Tr.lNil ?_
  refine Tr.thenN ?_
  refine Tr.seq ?_
  refine Tr.region ?_
  refine Tr.op (W.build elem53 W.parts0 rfl (by simp) (by omega) rfl fun g6 => ?_)
  refine Tr.val (V.assign rfl) rfl ?_
  refine Tr.lNil ?_
  refine Tr.thenN ?_
  refine Tr.seq ?_
  refine Tr.region ?_
  refine Tr.val (V.assign rfl) rfl ?_
  refine Tr.lNil ?_
  refine Tr.thenN ?_
  refine Tr.seq ?_
  refine Tr.seq ?_
  refine Tr.region ?_
  refine Tr.val (V.assign rfl) rfl ?_
  refine Tr.lNil ?_
  refine Tr.thenN ?_
  refine Tr.block ?_
  refine Tr.loop (ι := Nat × Nat × List Nat × Nat × Nat × List Value) (fun x => x.2.2.1.length = x.1 ∧ Digs x.2.2.1 ∧ x.2.1 ≤ 2199023255552 ∧ x.1 + x.2.1 ≤ m + 2199023255552 ∧ num x.2.2.1 + 256 ^ x.1 * x.2.1 = num (xs.take x.1) ∧ (x.2.2.1.map NV ++ x.2.2.2.2.2).length = x.2.2.2.2.1) (fun x => [(0, .slice p m c), (3, .slice (some ⟨x.2.2.2.1, 0, none⟩) x.1 x.2.2.2.2.1), (4, NV x.2.1), (5, NV x.1)]) (fun x => [⟨x.2.2.2.1, 3, x.2.2.1.map NV ++ x.2.2.2.2.2⟩]) (fun x => (m - x.1) * 4398046511104 + x.2.1) (0, 0, [], g6, 0, []) ⟨rfl, Digs.nil, Nat.zero_le _, by simp only; omega, rfl, rfl⟩ (lk_cons rfl (lk_cons rfl (lk_cons rfl (lk_cons rfl (lk_nil _))))) (List.Sublist.refl _) fun x hI => ?_
  obtain ⟨i, left, out, g, c, junk⟩ := x
  obtain ⟨hol, hod, hleft, hsum, hnm, hok⟩ := hI
  simp only at hol hod hleft hsum hnm hok ⊢
  have h3 : (∃ a, xs[i]? = some a ∧ i < m) ∨ (m ≤ i ∧ 0 < left) ∨ (m ≤ i ∧ left = 0) := by
    rcases Nat.lt_or_ge i m with h | h
    · exact .inl ⟨_, List.getElem?_eq_getElem (by omega), h⟩
    · rcases Nat.eq_zero_or_pos left with h0 | h0
      · exact .inr (.inr ⟨h, h0⟩)
      · exact .inr (.inl ⟨h, h0⟩)
  rcases h3 with ⟨a, ha, hlt⟩ | ⟨hge, hpos⟩ | ⟨hge, rfl⟩
  · have hp := hx.some (by omega)
    have hab := hb a (mem_get ha)
    obtain ⟨T, hTT⟩ : ∃ T, T = left + a := ⟨_, rfl⟩
    have hnum : num (out ++ [T % 256]) + 256 ^ (i + 1) * (T / 256) = num (xs.take (i + 1)) := by rw [carry_step hol hnm T hTT, num_take_succ xs i a ha]
    refine Tr.seq ?_
    refine Tr.seq ?_
    refine Tr.region ?_
    refine Tr.val (V.move rfl) rfl ?_
    refine Tr.val (V.move rfl) rfl ?_
    refine Tr.val (V.len Try.runUnderlying53 rfl) rfl ?_
    refine Tr.val (V.lss (b := true) rfl rfl (decide_eq_true (by omega))) rfl ?_
    refine Tr.val (V.move rfl) rfl ?_
    refine Tr.skipG rfl rfl rfl ?_
    refine Tr.skipG rfl rfl rfl ?_
    refine Tr.val (V.pick rfl rfl) rfl ?_
    refine Tr.lNil ?_
    refine Tr.thenN ?_
    refine Tr.condT rfl ?_
    refine Tr.skip ?_
    refine Tr.thenN ?_
    refine Tr.seq ?_
    refine Tr.block ?_
    refine Tr.seq ?_
    refine Tr.seq ?_
    refine Tr.region ?_
    refine Tr.val (V.move rfl) rfl ?_
    refine Tr.val (V.move rfl) rfl ?_
    refine Tr.val (V.len Try.runUnderlying53 rfl) rfl ?_
    refine Tr.val (V.lss (b := true) rfl rfl (decide_eq_true (by omega))) rfl ?_
    refine Tr.lNil ?_
    refine Tr.thenN ?_
    refine Tr.condT rfl ?_
    refine Tr.region ?_
    refine Tr.val (V.move rfl) rfl ?_
    refine Tr.val (V.move rfl) rfl ?_
    refine Tr.val (V.move rfl) rfl ?_
    refine Tr.val (V.idxS (j := i) Try.runUnderlying53 Try.sizeOf3 rfl rfl (by omega) (by omega) hp) rfl ?_
    refine Tr.val (V.load1 Try.isAgg3 rfl (V.cellR (hx.old) (by rw [List.getElem?_map, ha]; rfl))) rfl ?_
    refine Tr.val ((by rw [hTT]; exact V.addN rfl rfl (by omega) : VOp Try.prog _ _ _ _ _ _ _ (NV T))) rfl ?_
    refine Tr.val (V.assign rfl) rfl ?_
    refine Tr.lNil ?_
    refine Tr.thenN ?_
    refine Tr.seq ?_
    refine Tr.region ?_
    refine Tr.val (V.move rfl) rfl ?_
    refine Tr.val (V.move rfl) rfl ?_
    refine Tr.val (V.remN (b := 256) rfl rfl (by omega)) rfl ?_
    refine Tr.op (W.build (vs := [NV (T % 256)]) elem53 (W.parts1 rfl) rfl (by simp [Value.cells]) (by omega) rfl fun g30 => ?_)
    refine Tr.op (W.append (m := i) (xs := out.map NV) (vs := [NV (T % 256)]) (junk := junk) (L' := fun y => [⟨g30, 3, [NV (T % 256)]⟩, y]) elem53 rfl rfl (RdP.blk (cs := [NV (T % 256)]) (List.Mem.head _) 0 1) rfl (by simp [Value.oneCell']) (fun y => .tail .head) (by rw [List.length_map, hol]) hok (by omega) (by omega) rfl fun g' c' junk' hc' => ?_)
    rw [show out.map NV ++ [NV (T % 256)] = (out ++ [T % 256]).map NV by rw [List.map_append]; rfl] at hc' ⊢
    refine Tr.val (V.assign rfl) rfl ?_
    refine Tr.lNil ?_
    refine Tr.thenN ?_
    refine Tr.region ?_
    refine Tr.val (V.move rfl) rfl ?_
    refine Tr.val (V.quoN (b := 256) rfl rfl (by omega) (by omega)) rfl ?_
    refine Tr.val (V.assign rfl) rfl ?_
    refine Tr.lNil ?_
    refine Tr.inN ?_
    refine Tr.thenN ?_
    refine Tr.region ?_
    refine Tr.val (V.move rfl) rfl ?_
    refine Tr.val (V.add rfl rfl (by omega)) rfl ?_
    refine Tr.val (V.assign rfl) rfl ?_
    refine Tr.lNil ?_
    exact Tr.again (i + 1, T / 256, out ++ [T % 256], g', c', junk') ⟨by simp only [List.length_append, hol]; rfl, hod.snoc (Nat.mod_lt _ (by decide)), by simp only; omega, by simp only; omega, hnum, hc'⟩ (by simp only; omega) (lk_cons rfl (lk_cons rfl (lk_cons rfl (lk_cons rfl (lk_nil _))))) (List.sublist_cons_self _ _)
  · obtain ⟨T, hTT⟩ : ∃ T, T = left := ⟨_, rfl⟩
    rw [← hTT] at hleft hsum hnm hpos ⊢
    have hnum : num (out ++ [T % 256]) + 256 ^ (i + 1) * (T / 256) = num (xs.take (i + 1)) := by
      rw [carry_step (v := 0) hol hnm T rfl, List.take_of_length_le (by omega), List.take_of_length_le (by omega)]; omega
    refine Tr.seq ?_
    refine Tr.seq ?_
    refine Tr.region ?_
    refine Tr.val (V.move rfl) rfl ?_
    refine Tr.val (V.move rfl) rfl ?_
    refine Tr.val (V.len Try.runUnderlying53 rfl) rfl ?_
    refine Tr.val (V.lss (b := false) rfl rfl (decide_eq_false (by omega))) rfl ?_
    refine Tr.val (V.move rfl) rfl ?_
    refine Tr.valG rfl (V.move rfl) rfl ?_
    refine Tr.valG rfl (V.gtr (b := true) rfl rfl (decide_eq_true (by omega))) rfl ?_
    refine Tr.val (V.pick rfl rfl) rfl ?_
    refine Tr.lNil ?_
    refine Tr.thenN ?_
    refine Tr.condT rfl ?_
    refine Tr.skip ?_
    refine Tr.thenN ?_
    refine Tr.seq ?_
    refine Tr.block ?_
    refine Tr.seq ?_
    refine Tr.seq ?_
    refine Tr.region ?_
    refine Tr.val (V.move rfl) rfl ?_
    refine Tr.val (V.move rfl) rfl ?_
    refine Tr.val (V.len Try.runUnderlying53 rfl) rfl ?_
    refine Tr.val (V.lss (b := false) rfl rfl (decide_eq_false (by omega))) rfl ?_
    refine Tr.lNil ?_
    refine Tr.thenN ?_
    refine Tr.condF rfl ?_
    refine Tr.skip ?_
    refine Tr.thenN ?_
    refine Tr.seq ?_
    refine Tr.region ?_
    refine Tr.val (V.move rfl) rfl ?_
    refine Tr.val (V.move rfl) rfl ?_
    refine Tr.val (V.remN (b := 256) rfl rfl (by omega)) rfl ?_
    refine Tr.op (W.build (vs := [NV (T % 256)]) elem53 (W.parts1 rfl) rfl (by simp [Value.cells]) (by omega) rfl fun g30 => ?_)
    refine Tr.op (W.append (m := i) (xs := out.map NV) (vs := [NV (T % 256)]) (junk := junk) (L' := fun y => [⟨g30, 3, [NV (T % 256)]⟩, y]) elem53 rfl rfl (RdP.blk (cs := [NV (T % 256)]) (List.Mem.head _) 0 1) rfl (by simp [Value.oneCell']) (fun y => .tail .head) (by rw [List.length_map, hol]) hok (by omega) (by omega) rfl fun g' c' junk' hc' => ?_)
    rw [show out.map NV ++ [NV (T % 256)] = (out ++ [T % 256]).map NV by rw [List.map_append]; rfl] at hc' ⊢
    refine Tr.val (V.assign rfl) rfl ?_
    refine Tr.lNil ?_
    refine Tr.thenN ?_
    refine Tr.region ?_
    refine Tr.val (V.move rfl) rfl ?_
    refine Tr.val (V.quoN (b := 256) rfl rfl (by omega) (by omega)) rfl ?_
    refine Tr.val (V.assign rfl) rfl ?_
    refine Tr.lNil ?_
    refine Tr.inN ?_
    refine Tr.thenN ?_
    refine Tr.region ?_
    refine Tr.val (V.move rfl) rfl ?_
    refine Tr.val (V.add rfl rfl (by omega)) rfl ?_
    refine Tr.val (V.assign rfl) rfl ?_
    refine Tr.lNil ?_
    exact Tr.again (i + 1, T / 256, out ++ [T % 256], g', c', junk') ⟨by simp only [List.length_append, hol]; rfl, hod.snoc (Nat.mod_lt _ (by decide)), by simp only; omega, by simp only; omega, hnum, hc'⟩ (by simp only; omega) (lk_cons rfl (lk_cons rfl (lk_cons rfl (lk_cons rfl (lk_nil _))))) (List.sublist_cons_self _ _)
  · have hN : num out = num xs := by rw [List.take_of_length_le (by omega)] at hnm; omega
    have htr := trimL_dig out hod
    rw [hN] at htr
    refine Tr.seq ?_
    refine Tr.seq ?_
    refine Tr.region ?_
    refine Tr.val (V.move rfl) rfl ?_
    refine Tr.val (V.move rfl) rfl ?_
    refine Tr.val (V.len Try.runUnderlying53 rfl) rfl ?_
    refine Tr.val (V.lss (b := false) rfl rfl (decide_eq_false (by omega))) rfl ?_
    refine Tr.val (V.move rfl) rfl ?_
    refine Tr.valG rfl (V.move rfl) rfl ?_
    refine Tr.valG rfl (V.gtr (b := false) rfl rfl (decide_eq_false (by omega))) rfl ?_
    refine Tr.val (V.pick rfl rfl) rfl ?_
    refine Tr.lNil ?_
    refine Tr.thenN ?_
    refine Tr.condF rfl ?_
    refine Tr.exit ?_
    refine Tr.thenX ?_
    refine Tr.thenX ?_
    refine Tr.inHit ?_
    refine Tr.thenN ?_
    refine Tr.seq ?_
    refine Tr.region ?_
    refine Tr.val (V.move rfl) rfl ?_
    refine Tr.op (W.call1 (args1 rfl) Try.call53 rfl (fun w1 hw => trim_any (some ⟨g, 0, none⟩) i c out w1 (Nums.own hw (List.Mem.head _) hol hok) (by omega)) ?_)
    refine Tr.val (V.assign rfl) rfl ?_
    refine Tr.lNil ?_
    refine Tr.thenN ?_
    refine Tr.ret ?_
    refine Tr.out1 rfl (Res.tmp rfl) fun w hw => ?_
    obtain ⟨zs, hzs⟩ := trimL_prefix out
    rw [htr] at hzs
    have hmm : out.map NV ++ junk = (dig (num xs)).map NV ++ (zs.map NV ++ junk) := by
      rw [← List.append_assoc, ← List.map_append, ← hzs]
    exact ⟨⟨g, c, zs.map NV ++ junk⟩, by rw [htr], by rw [← hmm]; exact hw, by rw [← hmm]; exact hok⟩

theorem plus3_any (p q : Option Addr) (m c m2 c2 : Nat) (xs ys : List Nat) (w : World) (hx : Nums w p m c xs) (hy : Nums w q m2 c2 ys) (hm : m ≤ 1000) (hm2 : m2 ≤ 1000) (hdx : Digs xs) (hdy : Digs ys) :
    Calls Try.prog 55 [.slice p m c, .slice q m2 c2].toArray w (NumOut 3 w (num xs + num ys)) := by
  have hxl := hx.length
  have hyl := hy.length
  obtain ⟨M, hM⟩ : ∃ M, M = Nat.max m m2 := ⟨_, rfl⟩
  have hM1 : m ≤ M := by rw [hM]; exact Nat.le_max_left _ _
  have hM2 : m2 ≤ M := by rw [hM]; exact Nat.le_max_right _ _
  have hMb : M ≤ 1000 := by rw [hM]; exact Nat.max_le.2 ⟨hm, hm2⟩
  refine Tr.enter Try.func55 rfl Try.ntmps55 rfl (Hp.refl w) ?_
  refine Tr.seq ?_
  refine Tr.region ?_
  refine Tr.val (V.assign rfl) rfl ?_
  refine Tr.lNil ?_
  refine Tr.thenN ?_
  refine Tr.seq ?_
  refine Tr.region ?_
  refine Tr.val (V.move rfl) rfl ?_
  refine Tr.val (V.len Try.runUnderlying53 rfl) rfl ?_
  refine Tr.val (V.move rfl) rfl ?_
  refine Tr.val (V.len Try.runUnderlying53 rfl) rfl ?_
  refine Tr.val ((by rw [hM]; exact V.maxN rfl rfl : VOp Try.prog _ _ _ _ _ _ _ (NV M))) rfl ?_
  refine Tr.op (W.makeSlice (l := M) (c := M) elem53 rfl rfl rfl rfl (by omega) (by omega) (by omega) rfl fun g13 => ?_)
  refine Tr.val (V.assign rfl) rfl ?_
  refine Tr.lNil ?_
  refine Tr.thenN ?_
  refine Tr.seq ?_
  refine Tr.seq ?_
  refine Tr.region ?_
  refine Tr.val (V.assign rfl) rfl ?_
  refine Tr.lNil ?_
  refine Tr.thenN ?_
  refine Tr.block ?_
  refine Tr.loop (ι := Nat × List Nat) (fun x => x.1 ≤ m ∧ x.2.length = M ∧ Bnd x.2 (256 * x.1) ∧ num x.2 = num (xs.take x.1)) (fun x => [(0, .slice p m c), (1, .slice q m2 c2), (5, .slice (some ⟨g13, 0, none⟩) M M), (6, NV x.1)]) (fun x => [⟨g13, 3, x.2.map NV⟩]) (fun x => m - x.1) (0, List.replicate M 0) ⟨Nat.zero_le _, by simp, Bnd.zeros _ _, by simp only [num_zeros]; rfl⟩ (lk_cons rfl (lk_cons rfl (lk_cons rfl (lk_cons rfl (lk_nil _))))) (by rw [show (0, List.replicate M 0).2.map NV = List.replicate M (.int .i64 0) by simp]; exact List.Sublist.refl _) fun x hI => ?_
  obtain ⟨i, out⟩ := x
  obtain ⟨hi, hol, hob, hon⟩ := hI
  simp only at hi hol hob hon ⊢
  refine Tr.seq ?_
  refine Tr.seq ?_
  refine Tr.region ?_
  refine Tr.val (V.move rfl) rfl ?_
  refine Tr.val (V.move rfl) rfl ?_
  refine Tr.val (V.len Try.runUnderlying53 rfl) rfl ?_
  refine Tr.val (V.lss rfl rfl rfl) rfl ?_
  refine Tr.lNil ?_
  refine Tr.thenN ?_
  refine Tr.cond rfl (fun hT0 => ?_) (fun hF0 => ?_)
  · simp only [decide_eq_true_eq] at hT0
    have hlt : i < m := by omega
    have hp := hx.some (by omega)
    obtain ⟨a, ha⟩ : ∃ a, out[i]? = some a := ⟨_, List.getElem?_eq_getElem (by omega)⟩
    obtain ⟨b, hb⟩ : ∃ b, xs[i]? = some b := ⟨_, List.getElem?_eq_getElem (by omega)⟩
    have hab := hob a (mem_get ha)
    have hbb := hdx b (mem_get hb)
    have hnn : num (out.set i (a + b)) = num (xs.take (i + 1)) := by rw [num_add out i a b ha, hon, num_take_succ xs i b hb]
    refine Tr.skip ?_
    refine Tr.thenN ?_
    refine Tr.seq ?_
    refine Tr.block ?_
    refine Tr.regionD [0, 0, 0, 0, 12, 28, 0, 0, 192, 448, 1020, 2047, 4095] [12] (.pure 0 (.pure 1 (.pure 2 (.pure 3 (.pure 4 (.soft 5 (.pure 6 (.pure 7 (.pure 8 (.soft 9 (.pure 10 (.pure 11 (.hard 12 .done))))))))))))) mixed (by kernel_rfl) ?_
    refine TrP.pure rfl (fun _ => V.move rfl) rfl ?_
    refine TrP.pure rfl (fun _ => V.move rfl) rfl ?_
    refine TrP.pure rfl (fun _ => V.move rfl) rfl ?_
    refine TrP.pure rfl (fun _ => V.move rfl) rfl ?_
    refine TrP.pure rfl (fun _ => V.idxO (j := i) (o' := i) Try.runUnderlying53 Try.sizeOf3 rfl rfl (by omega) (by omega) (by omega)) rfl ?_
    refine TrP.soft rfl (V.load1 Try.isAgg3 rfl (V.cellB (by repeat (first | exact List.Mem.head _ | apply List.Mem.tail)) (by rw [List.getElem?_map, ha]; rfl))) rfl ?_
    refine TrP.pure rfl (fun _ => V.move rfl) rfl ?_
    refine TrP.pure rfl (fun _ => V.move rfl) rfl ?_
    refine TrP.pure rfl (fun _ => V.idxS (j := i) Try.runUnderlying53 Try.sizeOf3 rfl rfl (by omega) (by omega) hp) rfl ?_
    refine TrP.soft rfl (V.load1 Try.isAgg3 rfl (V.cellR (hx.old) (by rw [List.getElem?_map, hb]; rfl))) rfl ?_
    refine TrP.pure rfl (fun _ => V.addN rfl rfl (by omega)) rfl ?_
    refine TrP.pure rfl (fun _ => V.idxO (j := i) (o' := i) Try.runUnderlying53 Try.sizeOf3 rfl rfl (by omega) (by omega) (by omega)) rfl ?_
    refine TrP.hard rfl (W.store1E (cs := out.map NV) (v := NV (a + b)) (cs' := (out.set i (a + b)).map NV) Try.sizeOf3 rfl rfl rfl rfl (by rw [List.map_set]) (by repeat (first | exact Upd.head | apply Upd.tail)) (by rw [List.length_map]; omega) ?_)
    refine Tr.pTail rfl ?_
    refine TrP.done ?_
    refine Tr.inN ?_
    refine Tr.thenN ?_
    refine Tr.region ?_
    refine Tr.val (V.move rfl) rfl ?_
    refine Tr.val (V.add rfl rfl (by omega)) rfl ?_
    refine Tr.val (V.assign rfl) rfl ?_
    refine Tr.lNil ?_
    exact Tr.again (i + 1, out.set i (a + b)) ⟨by simp only; omega, by simp only [List.length_set]; exact hol, hob.set (by simp only; omega) (by simp only; omega), hnn⟩ (by simp only; omega) (lk_cons rfl (lk_cons rfl (lk_cons rfl (lk_cons rfl (lk_nil _))))) (List.Sublist.refl _)
  · simp only [decide_eq_false_iff_not] at hF0
    have him : i = m := by omega
    refine Tr.exit ?_
    refine Tr.thenX ?_
    refine Tr.thenX ?_
    refine Tr.inHit ?_
    refine Tr.thenN ?_
    refine Tr.seq ?_
    refine Tr.seq ?_
    refine Tr.region ?_
    refine Tr.val (V.assign rfl) rfl ?_
    refine Tr.lNil ?_
    refine Tr.thenN ?_
    refine Tr.block ?_
    refine Tr.loop (ι := Nat × List Nat) (fun x => x.1 ≤ m2 ∧ x.2.length = M ∧ Bnd x.2 (256 * (m + x.1)) ∧ num x.2 = num xs + num (ys.take x.1)) (fun x => [(1, .slice q m2 c2), (5, .slice (some ⟨g13, 0, none⟩) M M), (7, NV x.1)]) (fun x => [⟨g13, 3, x.2.map NV⟩]) (fun x => m2 - x.1) (0, out) ⟨Nat.zero_le _, hol, hob.mono (by simp only; omega), by simp only [hon]; rw [List.take_of_length_le (by omega)]; rfl⟩ (lk_cons rfl (lk_cons rfl (lk_cons rfl (lk_nil _)))) (List.Sublist.refl _) fun x hI => ?_
    clear hol hob hon hi
    obtain ⟨j, out⟩ := x
    obtain ⟨hi, hol, hob, hon⟩ := hI
    simp only at hi hol hob hon ⊢
    refine Tr.seq ?_
    refine Tr.seq ?_
    refine Tr.region ?_
    refine Tr.val (V.move rfl) rfl ?_
    refine Tr.val (V.move rfl) rfl ?_
    refine Tr.val (V.len Try.runUnderlying53 rfl) rfl ?_
    refine Tr.val (V.lss rfl rfl rfl) rfl ?_
    refine Tr.lNil ?_
    refine Tr.thenN ?_
    refine Tr.cond rfl (fun hT1 => ?_) (fun hF1 => ?_)
    · simp only [decide_eq_true_eq] at hT1
      have hlt : j < m2 := by omega
      have hp := hy.some (by omega)
      obtain ⟨a, ha⟩ : ∃ a, out[j]? = some a := ⟨_, List.getElem?_eq_getElem (by omega)⟩
      obtain ⟨b, hb⟩ : ∃ b, ys[j]? = some b := ⟨_, List.getElem?_eq_getElem (by omega)⟩
      have hab := hob a (mem_get ha)
      have hbb := hdy b (mem_get hb)
      have hnn : num (out.set j (a + b)) = num xs + num (ys.take (j + 1)) := by rw [num_add out j a b ha, hon, num_take_succ ys j b hb]; omega
      refine Tr.skip ?_
      refine Tr.thenN ?_
      refine Tr.seq ?_
      refine Tr.block ?_
      refine Tr.regionD [0, 0, 0, 0, 12, 28, 0, 0, 192, 448, 1020, 2047, 4095] [12] (.pure 0 (.pure 1 (.pure 2 (.pure 3 (.pure 4 (.soft 5 (.pure 6 (.pure 7 (.pure 8 (.soft 9 (.pure 10 (.pure 11 (.hard 12 .done))))))))))))) mixed (by kernel_rfl) ?_
      refine TrP.pure rfl (fun _ => V.move rfl) rfl ?_
      refine TrP.pure rfl (fun _ => V.move rfl) rfl ?_
      refine TrP.pure rfl (fun _ => V.move rfl) rfl ?_
      refine TrP.pure rfl (fun _ => V.move rfl) rfl ?_
      refine TrP.pure rfl (fun _ => V.idxO (j := j) (o' := j) Try.runUnderlying53 Try.sizeOf3 rfl rfl (by omega) (by omega) (by omega)) rfl ?_
      refine TrP.soft rfl (V.load1 Try.isAgg3 rfl (V.cellB (by repeat (first | exact List.Mem.head _ | apply List.Mem.tail)) (by rw [List.getElem?_map, ha]; rfl))) rfl ?_
      refine TrP.pure rfl (fun _ => V.move rfl) rfl ?_
      refine TrP.pure rfl (fun _ => V.move rfl) rfl ?_
      refine TrP.pure rfl (fun _ => V.idxS (j := j) Try.runUnderlying53 Try.sizeOf3 rfl rfl (by omega) (by omega) hp) rfl ?_
      refine TrP.soft rfl (V.load1 Try.isAgg3 rfl (V.cellR (hy.old) (by rw [List.getElem?_map, hb]; rfl))) rfl ?_
      refine TrP.pure rfl (fun _ => V.addN rfl rfl (by omega)) rfl ?_
      refine TrP.pure rfl (fun _ => V.idxO (j := j) (o' := j) Try.runUnderlying53 Try.sizeOf3 rfl rfl (by omega) (by omega) (by omega)) rfl ?_
      refine TrP.hard rfl (W.store1E (cs := out.map NV) (v := NV (a + b)) (cs' := (out.set j (a + b)).map NV) Try.sizeOf3 rfl rfl rfl rfl (by rw [List.map_set]) (by repeat (first | exact Upd.head | apply Upd.tail)) (by rw [List.length_map]; omega) ?_)
      refine Tr.pTail rfl ?_
      refine TrP.done ?_
      refine Tr.inN ?_
      refine Tr.thenN ?_
      refine Tr.region ?_
      refine Tr.val (V.move rfl) rfl ?_
      refine Tr.val (V.add rfl rfl (by omega)) rfl ?_
      refine Tr.val (V.assign rfl) rfl ?_
      refine Tr.lNil ?_
      exact Tr.again (j + 1, out.set j (a + b)) ⟨by simp only; omega, by simp only [List.length_set]; exact hol, hob.set (by simp only; omega) (by simp only; omega), hnn⟩ (by simp only; omega) (lk_cons rfl (lk_cons rfl (lk_cons rfl (lk_nil _)))) (List.Sublist.refl _)
    · simp only [decide_eq_false_iff_not] at hF1
      obtain rfl : j = m2 := by omega
      have hN : num out = num xs + num ys := by rw [hon, List.take_of_length_le (by omega)]
      refine Tr.exit ?_
      refine Tr.thenX ?_
      refine Tr.thenX ?_
      refine Tr.inHit ?_
      refine Tr.thenN ?_
      refine Tr.seq ?_
      refine Tr.region ?_
      refine Tr.val (V.move rfl) rfl ?_
      refine Tr.op (W.callNum  (args1 rfl) Try.call57 rfl (fun w1 hw => by have h := carry_any (some ⟨g13, 0, none⟩) M M out w1 ⟨(RdP.all (List.Mem.head _)).now hw, hol, Nat.le_refl _⟩ (by omega) (hob.mono (by omega)); rw [hN] at h; exact h) fun g c junk hc => ?_)
      refine Tr.val (V.assign rfl) rfl ?_
      refine Tr.lNil ?_
      refine Tr.thenN ?_
      refine Tr.ret ?_
      refine Tr.out1 rfl (Res.tmp rfl) fun w hw => ?_
      exact ⟨⟨g, c, junk⟩, rfl, hw.sub (.cons_cons _ (List.nil_sublist _)), hc⟩

theorem times3_any (p q : Option Addr) (m c m2 c2 : Nat) (xs ys : List Nat) (w : World) (hx : Nums w p m c xs) (hy : Nums w q m2 c2 ys) (hm : m ≤ 1000) (hm2 : m2 ≤ 1000) (hdx : Digs xs) (hdy : Digs ys) :
    Calls Try.prog 47 [.slice p m c, .slice q m2 c2].toArray w (NumOut 3 w (num xs * num ys)) := by
  have hxl := hx.length
  have hyl := hy.length
  obtain ⟨M, hM⟩ : ∃ M, M = m + m2 := ⟨_, rfl⟩
  refine Tr.enter Try.func47 rfl Try.ntmps47 rfl (Hp.refl w) ?_
  refine Tr.seq ?_
  refine Tr.region ?_
  refine Tr.val (V.assign rfl) rfl ?_
  refine Tr.lNil ?_
  refine Tr.thenN ?_
  refine Tr.seq ?_
  refine Tr.region ?_
  refine Tr.val (V.move rfl) rfl ?_
  refine Tr.val (V.len Try.runUnderlying53 rfl) rfl ?_
  refine Tr.val (V.move rfl) rfl ?_
  refine Tr.val (V.len Try.runUnderlying53 rfl) rfl ?_
  refine Tr.val ((by rw [hM]; exact V.addN rfl rfl (by omega) : VOp Try.prog _ _ _ _ _ _ _ (NV M))) rfl ?_
  refine Tr.op (W.makeSlice (l := M) (c := M) elem53 rfl rfl rfl rfl (by omega) (by omega) (by omega) rfl fun g13 => ?_)
  refine Tr.val (V.assign rfl) rfl ?_
  refine Tr.lNil ?_
  refine Tr.thenN ?_
  refine Tr.seq ?_
  refine Tr.seq ?_
  refine Tr.region ?_
  refine Tr.val (V.assign rfl) rfl ?_
  refine Tr.lNil ?_
  refine Tr.thenN ?_
  refine Tr.block ?_
  refine Tr.loop (ι := Nat × List Nat) (fun x => x.1 ≤ m ∧ x.2.length = M ∧ Bnd x.2 (1000000 * x.1 * 1000) ∧ num x.2 = prodTo xs ys x.1 0) (fun x => [(0, .slice p m c), (1, .slice q m2 c2), (5, .slice (some ⟨g13, 0, none⟩) M M), (6, NV x.1)]) (fun x => [⟨g13, 3, x.2.map NV⟩]) (fun x => m - x.1) (0, List.replicate M 0) ⟨Nat.zero_le _, by simp, Bnd.zeros _ _, by simp only [num_zeros, prodTo_zero]⟩ (lk_cons rfl (lk_cons rfl (lk_cons rfl (lk_cons rfl (lk_nil _))))) (by rw [show (0, List.replicate M 0).2.map NV = List.replicate M (.int .i64 0) by simp]; exact List.Sublist.refl _) fun x hI => ?_
  obtain ⟨i, out⟩ := x
  obtain ⟨hi, hol, hob, hon⟩ := hI
  simp only at hi hol hob hon ⊢
  refine Tr.seq ?_
  refine Tr.seq ?_
  refine Tr.region ?_
  refine Tr.val (V.move rfl) rfl ?_
  refine Tr.val (V.move rfl) rfl ?_
  refine Tr.val (V.len Try.runUnderlying53 rfl) rfl ?_
  refine Tr.val (V.lss rfl rfl rfl) rfl ?_
  refine Tr.lNil ?_
  refine Tr.thenN ?_
  refine Tr.cond rfl (fun hT0 => ?_) (fun hF0 => ?_)
  · simp only [decide_eq_true_eq] at hT0
    have hlt : i < m := by omega
    have hp := hx.some (by omega)
    obtain ⟨b, hb⟩ : ∃ b, xs[i]? = some b := ⟨_, List.getElem?_eq_getElem (by omega)⟩
    have hbb := hdx b (mem_get hb)
    refine Tr.skip ?_
    refine Tr.thenN ?_
    refine Tr.seq ?_
    refine Tr.block ?_
    refine Tr.seq ?_
    refine Tr.region ?_
    refine Tr.val (V.assign rfl) rfl ?_
    refine Tr.lNil ?_
    refine Tr.thenN ?_
    refine Tr.block ?_
    refine Tr.loop (ι := Nat × List Nat) (fun x => x.1 ≤ m2 ∧ x.2.length = M ∧ Bnd x.2 (1000000 * i * 1000 + 1000000 * x.1) ∧ num x.2 = prodTo xs ys i x.1) (fun x => [(0, .slice p m c), (1, .slice q m2 c2), (5, .slice (some ⟨g13, 0, none⟩) M M), (6, NV i), (7, NV x.1)]) (fun x => [⟨g13, 3, x.2.map NV⟩]) (fun x => m2 - x.1) (0, out) ⟨Nat.zero_le _, hol, hob.mono (by simp only; omega), hon⟩ (lk_cons rfl (lk_cons rfl (lk_cons rfl (lk_cons rfl (lk_cons rfl (lk_nil _)))))) (List.Sublist.refl _) fun x hI => ?_
    clear hol hob hon
    obtain ⟨k, out⟩ := x
    obtain ⟨hk, hol, hob, hon⟩ := hI
    simp only at hk hol hob hon ⊢
    refine Tr.seq ?_
    refine Tr.seq ?_
    refine Tr.region ?_
    refine Tr.val (V.move rfl) rfl ?_
    refine Tr.val (V.move rfl) rfl ?_
    refine Tr.val (V.len Try.runUnderlying53 rfl) rfl ?_
    refine Tr.val (V.lss rfl rfl rfl) rfl ?_
    refine Tr.lNil ?_
    refine Tr.thenN ?_
    refine Tr.cond rfl (fun hT1 => ?_) (fun hF1 => ?_)
    · simp only [decide_eq_true_eq] at hT1
      have hlt2 : k < m2 := by omega
      have hq := hy.some (by omega)
      obtain ⟨a, ha⟩ : ∃ a, out[i + k]? = some a := ⟨_, List.getElem?_eq_getElem (by omega)⟩
      obtain ⟨d, hd⟩ : ∃ d, ys[k]? = some d := ⟨_, List.getElem?_eq_getElem (by omega)⟩
      have hab := hob a (mem_get ha)
      have hdd := hdy d (mem_get hd)
      have hbd : b * d ≤ 255 * 255 := Nat.mul_le_mul (by omega) (by omega)
      have hnn : num (out.set (i + k) (a + b * d)) = prodTo xs ys i (k + 1) := by rw [num_add out (i + k) a (b * d) ha, hon, prodTo_step xs ys i k b d hb hd]
      refine Tr.skip ?_
      refine Tr.thenN ?_
      refine Tr.seq ?_
      refine Tr.block ?_
      refine Tr.regionD [0, 0, 0, 6, 0, 0, 0, 96, 240, 496, 0, 0, 3072, 7168, 0, 0, 49152, 114688, 261120, 524272, 1048575, 2097151] [21] (.pure 0 (.pure 1 (.pure 2 (.pure 3 (.pure 4 (.pure 5 (.pure 6 (.pure 7 (.pure 8 (.soft 9 (.pure 10 (.pure 11 (.pure 12 (.soft 13 (.pure 14 (.pure 15 (.pure 16 (.soft 17 (.pure 18 (.pure 19 (.pure 20 (.hard 21 .done)))))))))))))))))))))) mixed (by kernel_rfl) ?_
      refine TrP.pure rfl (fun _ => V.move rfl) rfl ?_
      refine TrP.pure rfl (fun _ => V.move rfl) rfl ?_
      refine TrP.pure rfl (fun _ => V.move rfl) rfl ?_
      refine TrP.pure rfl (fun _ => V.addN rfl rfl (by omega)) rfl ?_
      refine TrP.pure rfl (fun _ => V.move rfl) rfl ?_
      refine TrP.pure rfl (fun _ => V.move rfl) rfl ?_
      refine TrP.pure rfl (fun _ => V.move rfl) rfl ?_
      refine TrP.pure rfl (fun _ => V.addN rfl rfl (by omega)) rfl ?_
      refine TrP.pure rfl (fun _ => V.idxO (j := (i + k)) (o' := (i + k)) Try.runUnderlying53 Try.sizeOf3 rfl rfl (by omega) (by omega) (by omega)) rfl ?_
      refine TrP.soft rfl (V.load1 Try.isAgg3 rfl (V.cellB (by repeat (first | exact List.Mem.head _ | apply List.Mem.tail)) (by rw [List.getElem?_map, ha]; rfl))) rfl ?_
      refine TrP.pure rfl (fun _ => V.move rfl) rfl ?_
      refine TrP.pure rfl (fun _ => V.move rfl) rfl ?_
      refine TrP.pure rfl (fun _ => V.idxS (j := i) Try.runUnderlying53 Try.sizeOf3 rfl rfl (by omega) (by omega) hp) rfl ?_
      refine TrP.soft rfl (V.load1 Try.isAgg3 rfl (V.cellR (hx.old) (by rw [List.getElem?_map, hb]; rfl))) rfl ?_
      refine TrP.pure rfl (fun _ => V.move rfl) rfl ?_
      refine TrP.pure rfl (fun _ => V.move rfl) rfl ?_
      refine TrP.pure rfl (fun _ => V.idxS (j := k) Try.runUnderlying53 Try.sizeOf3 rfl rfl (by omega) (by omega) hq) rfl ?_
      refine TrP.soft rfl (V.load1 Try.isAgg3 rfl (V.cellR (hy.old) (by rw [List.getElem?_map, hd]; rfl))) rfl ?_
      refine TrP.pure rfl (fun _ => V.mulN rfl rfl (by omega)) rfl ?_
      refine TrP.pure rfl (fun _ => V.addN rfl rfl (by omega)) rfl ?_
      refine TrP.pure rfl (fun _ => V.idxO (j := (i + k)) (o' := (i + k)) Try.runUnderlying53 Try.sizeOf3 rfl rfl (by omega) (by omega) (by omega)) rfl ?_
      refine TrP.hard rfl (W.store1E (cs := out.map NV) (v := NV (a + b * d)) (cs' := (out.set (i + k) (a + b * d)).map NV) Try.sizeOf3 rfl rfl rfl rfl (by rw [List.map_set]) (by repeat (first | exact Upd.head | apply Upd.tail)) (by rw [List.length_map]; omega) ?_)
      refine Tr.pTail rfl ?_
      refine TrP.done ?_
      refine Tr.inN ?_
      refine Tr.thenN ?_
      refine Tr.region ?_
      refine Tr.val (V.move rfl) rfl ?_
      refine Tr.val (V.add rfl rfl (by omega)) rfl ?_
      refine Tr.val (V.assign rfl) rfl ?_
      refine Tr.lNil ?_
      exact Tr.again (k + 1, out.set (i + k) (a + b * d)) ⟨by simp only; omega, by simp only [List.length_set]; exact hol, hob.set (by simp only; omega) (by simp only; omega), hnn⟩ (by simp only; omega) (lk_cons rfl (lk_cons rfl (lk_cons rfl (lk_cons rfl (lk_cons rfl (lk_nil _)))))) (List.Sublist.refl _)
    · simp only [decide_eq_false_iff_not] at hF1
      have hk2 : k = m2 := by omega
      refine Tr.exit ?_
      refine Tr.thenX ?_
      refine Tr.thenX ?_
      refine Tr.inHit ?_
      refine Tr.inN ?_
      refine Tr.thenN ?_
      refine Tr.region ?_
      refine Tr.val (V.move rfl) rfl ?_
      refine Tr.val (V.add rfl rfl (by omega)) rfl ?_
      refine Tr.val (V.assign rfl) rfl ?_
      refine Tr.lNil ?_
      exact Tr.again (i + 1, out) ⟨by simp only; omega, hol, hob.mono (by simp only; omega), by simp only; rw [hon, hk2, ← hyl, prodTo_row xs ys i b hb]⟩ (by simp only; omega) (lk_cons rfl (lk_cons rfl (lk_cons rfl (lk_cons rfl (lk_nil _))))) (List.Sublist.refl _)
  · simp only [decide_eq_false_iff_not] at hF0
    obtain rfl : i = m := by omega
    have hN : num out = num xs * num ys := by rw [hon, ← hxl, prodTo_all]
    refine Tr.exit ?_
    refine Tr.thenX ?_
    refine Tr.thenX ?_
    refine Tr.inHit ?_
    refine Tr.thenN ?_
    refine Tr.seq ?_
    refine Tr.region ?_
    refine Tr.val (V.move rfl) rfl ?_
    refine Tr.op (W.callNum  (args1 rfl) Try.call57 rfl (fun w1 hw => by have h := carry_any (some ⟨g13, 0, none⟩) M M out w1 ⟨(RdP.all (List.Mem.head _)).now hw, hol, Nat.le_refl _⟩ (by omega) (hob.mono (by omega)); rw [hN] at h; exact h) fun g c junk hc => ?_)
    refine Tr.val (V.assign rfl) rfl ?_
    refine Tr.lNil ?_
    refine Tr.thenN ?_
    refine Tr.ret ?_
    refine Tr.out1 rfl (Res.tmp rfl) fun w hw => ?_
    exact ⟨⟨g, c, junk⟩, rfl, hw.sub (.cons_cons _ (List.nil_sublist _)), hc⟩

theorem number3_any (p : Option Addr) (m c : Nat) (b : List (BitVec 8)) (w : World) (hx : Bytes w p m c b) (hm : m ≤ 100000) :
    Calls Try.prog 42 [.slice p m c].toArray w (NumOut 3 w (leN b)) := by
  have hxl := hx.length
  have hle := hx.le
  refine Tr.enter Try.func42 rfl Try.ntmps42 rfl (Hp.refl w) ?_
  refine Tr.seq ?_
  refine Tr.region ?_
  refine Tr.val (V.assign rfl) rfl ?_
  refine Tr.lNil ?_
  refine Tr.thenN ?_
  refine Tr.seq ?_
  refine Tr.region ?_
  refine Tr.op (W.build elem53 W.parts0 rfl (by simp) (by omega) rfl fun g5 => ?_)
  refine Tr.val (V.assign rfl) rfl ?_
  refine Tr.lNil ?_
  refine Tr.thenN ?_
  refine Tr.seq ?_
  refine Tr.seq ?_
  refine Tr.region ?_
  refine Tr.val (V.assign rfl) rfl ?_
  refine Tr.lNil ?_
  refine Tr.thenN ?_
  refine Tr.block ?_
  refine Tr.loop (ι := Nat × Nat × Nat × List Value) (fun x => x.1 ≤ m ∧ ((ofB (b.take x.1)).map NV ++ x.2.2.2).length = x.2.2.1) (fun x => [(0, .slice p m c), (3, .slice (some ⟨x.2.1, 0, none⟩) x.1 x.2.2.1), (4, NV x.1)]) (fun x => [⟨x.2.1, 3, (ofB (b.take x.1)).map NV ++ x.2.2.2⟩]) (fun x => m - x.1) (0, g5, 0, []) ⟨Nat.zero_le _, by simp [ofB]⟩ (lk_cons rfl (lk_cons rfl (lk_cons rfl (lk_nil _)))) (List.Sublist.refl _) fun x hI => ?_
  obtain ⟨i, g, c, junk⟩ := x
  obtain ⟨hi, hok⟩ := hI
  simp only at hi hok ⊢
  refine Tr.seq ?_
  refine Tr.seq ?_
  refine Tr.region ?_
  refine Tr.val (V.move rfl) rfl ?_
  refine Tr.val (V.move rfl) rfl ?_
  refine Tr.val (V.len Try.runUnderlying29 rfl) rfl ?_
  refine Tr.val (V.lss rfl rfl rfl) rfl ?_
  refine Tr.lNil ?_
  refine Tr.thenN ?_
  refine Tr.cond rfl (fun hT0 => ?_) (fun hF0 => ?_)
  · simp only [decide_eq_true_eq] at hT0
    have hlt : i < m := by omega
    obtain ⟨a, ha⟩ : ∃ a, b[i]? = some a := ⟨_, List.getElem?_eq_getElem (by omega)⟩
    have hp : p.isSome = true := by
      cases p with
      | none => have := (hx.none rfl).1; omega
      | some _ => rfl
    refine Tr.skip ?_
    refine Tr.thenN ?_
    refine Tr.seq ?_
    refine Tr.block ?_
    refine Tr.region ?_
    refine Tr.val (V.move rfl) rfl ?_
    refine Tr.val (V.move rfl) rfl ?_
    refine Tr.val (V.move rfl) rfl ?_
    refine Tr.val (V.idxS (j := i) Try.runUnderlying29 Try.sizeOf5 rfl rfl (by omega) (by omega) hp) rfl ?_
    refine Tr.val (V.load1 Try.isAgg5 rfl (V.cellR (hx.old) (by rw [List.getElem?_map, ha]; rfl))) rfl ?_
    refine Tr.val (V.conv8_I Try.runUnderlying5 Try.runUnderlying3 rfl) rfl ?_
    refine Tr.op (W.build (vs := [NV a.toNat]) elem53 (W.parts1 rfl) rfl (by simp [Value.cells]) (by omega) rfl fun g18 => ?_)
    refine Tr.op (W.append (m := i) (xs := (ofB (b.take i)).map NV) (vs := [NV a.toNat]) (junk := junk) (L' := fun y => [⟨g18, 3, [NV a.toNat]⟩, y]) elem53 rfl rfl (RdP.blk (cs := [NV a.toNat]) (List.Mem.head _) 0 1) rfl (by simp [Value.oneCell']) (fun y => .tail .head) (by rw [List.length_map, ofB, List.length_map, List.length_take]; omega) hok (by omega) (by omega) rfl fun g' c' junk' hc' => ?_)
    rw [show (ofB (b.take i)).map NV ++ [NV a.toNat] = (ofB (b.take (i + 1))).map NV by rw [List.take_add_one, ha, ofB, ofB, List.map_append, List.map_append]; rfl] at hc' ⊢
    refine Tr.val (V.assign rfl) rfl ?_
    refine Tr.lNil ?_
    refine Tr.inN ?_
    refine Tr.thenN ?_
    refine Tr.region ?_
    refine Tr.val (V.move rfl) rfl ?_
    refine Tr.val (V.add rfl rfl (by omega)) rfl ?_
    refine Tr.val (V.assign rfl) rfl ?_
    refine Tr.lNil ?_
    exact Tr.again (i + 1, g', c', junk') ⟨by simp only; omega, hc'⟩ (by simp only; omega) (lk_cons rfl (lk_cons rfl (lk_cons rfl (lk_nil _)))) (List.sublist_cons_self _ _)
  · simp only [decide_eq_false_iff_not] at hF0
    obtain rfl : i = m := by omega
    rw [List.take_of_length_le (show b.length ≤ i by omega)] at hok ⊢
    have htr := trimL_dig (ofB b) (ofB_digs b)
    rw [ofB_num] at htr
    refine Tr.exit ?_
    refine Tr.thenX ?_
    refine Tr.thenX ?_
    refine Tr.inHit ?_
    refine Tr.thenN ?_
    refine Tr.seq ?_
    refine Tr.region ?_
    refine Tr.val (V.move rfl) rfl ?_
    refine Tr.op (W.call1 (args1 rfl) Try.call53 rfl (fun w1 hw => trim_any (some ⟨g, 0, none⟩) i c (ofB b) w1 (Nums.own hw (List.Mem.head _) (by rw [ofB, List.length_map]; exact hxl) hok) (by omega)) ?_)
    refine Tr.val (V.assign rfl) rfl ?_
    refine Tr.lNil ?_
    refine Tr.thenN ?_
    refine Tr.ret ?_
    refine Tr.out1 rfl (Res.tmp rfl) fun w hw => ?_
    obtain ⟨zs, hzs⟩ := trimL_prefix (ofB b)
    rw [htr] at hzs
    have hmm : (ofB b).map NV ++ junk = (dig (leN b)).map NV ++ (zs.map NV ++ junk) := by
      rw [← List.append_assoc, ← List.map_append, ← hzs]
    exact ⟨⟨g, c, zs.map NV ++ junk⟩, by rw [htr], by rw [← hmm]; exact hw, by rw [← hmm]; exact hok⟩

theorem bytes3_any (p : Option Addr) (m c size : Nat) (xs : List Nat) (w : World) (hx : Nums w p m c xs) (hm : m ≤ 100000) (hs : size ≤ 100000) :
    Calls Try.prog 46 [.slice p m c, NV size].toArray w fun r w' => ∃ g : Nat, r = .returned (.slice (some ⟨g, 0, none⟩) size size) ∧ Hp w [] [⟨g, 5, (toB xs size).map U8⟩] w' ∧ True := by
  have hxl := hx.length
  have hle := hx.le
  refine Tr.enter Try.func46 rfl Try.ntmps46 rfl (Hp.refl w) ?_
  refine Tr.seq ?_
  refine Tr.region ?_
  refine Tr.val (V.assign rfl) rfl ?_
  refine Tr.lNil ?_
  refine Tr.thenN ?_
  refine Tr.seq ?_
  refine Tr.region ?_
  refine Tr.val (V.move rfl) rfl ?_
  refine Tr.op (W.makeSlice (l := size) (c := size) elem29 rfl rfl rfl rfl (by omega) (by omega) (by omega) rfl fun g8 => ?_)
  refine Tr.val (V.assign rfl) rfl ?_
  refine Tr.lNil ?_
  refine Tr.thenN ?_
  refine Tr.seq ?_
  refine Tr.seq ?_
  refine Tr.region ?_
  refine Tr.val (V.assign rfl) rfl ?_
  refine Tr.lNil ?_
  refine Tr.thenN ?_
  refine Tr.block ?_
  refine Tr.loop (ι := Nat) (fun i => i ≤ m ∧ i ≤ size) (fun i => [(0, .slice p m c), (1, NV size), (5, .slice (some ⟨g8, 0, none⟩) size size), (6, NV i)]) (fun i => [⟨g8, 5, ((xs.take i).map (BitVec.ofNat 8) ++ List.replicate (size - i) 0#8).map U8⟩]) (fun i => size - i) 0 ⟨Nat.zero_le _, Nat.zero_le _⟩ (lk_cons rfl (lk_cons rfl (lk_cons rfl (lk_cons rfl (lk_nil _))))) (by simp [List.map_replicate]) fun i hI => ?_
  obtain ⟨him, his⟩ := hI
  have h3 : (i < size ∧ ∃ a, xs[i]? = some a) ∨ (i < size ∧ i = m) ∨ i = size := by
    rcases Nat.lt_or_ge i size with h | h
    · rcases Nat.lt_or_ge i m with h' | h'
      · exact .inl ⟨h, _, List.getElem?_eq_getElem (by omega)⟩
      · exact .inr (.inl ⟨h, by omega⟩)
    · exact .inr (.inr (by omega))
  rcases h3 with ⟨hlt, a, ha⟩ | ⟨hlt, rfl⟩ | rfl
  · have hlm : i < m := by have := (List.getElem?_eq_some_iff.1 ha).1; omega
    have hp := hx.some (by omega)
    have hset : ((xs.take i).map (BitVec.ofNat 8) ++ List.replicate (size - i) 0#8).set i (BitVec.ofNat 8 a) = ((xs.take (i + 1)).map (BitVec.ofNat 8) ++ List.replicate (size - (i + 1)) 0#8) := by
      obtain ⟨r, hr⟩ : ∃ r, size - i = r + 1 := ⟨size - i - 1, by omega⟩
      have hr' : size - (i + 1) = r := by omega
      have hl : ((xs.take i).map (BitVec.ofNat 8)).length = i := by rw [List.length_map, List.length_take]; omega
      rw [List.set_append_right _ _ (by omega), hl, Nat.sub_self, hr, hr', List.replicate_succ, List.set_cons_zero, List.take_add_one, ha, List.map_append]
      simp
    refine Tr.seq ?_
    refine Tr.seq ?_
    refine Tr.region ?_
    refine Tr.val (V.move rfl) rfl ?_
    refine Tr.val (V.move rfl) rfl ?_
    refine Tr.val (V.lss (b := true) rfl rfl (decide_eq_true (by omega))) rfl ?_
    refine Tr.val (V.move rfl) rfl ?_
    refine Tr.valG rfl (V.move rfl) rfl ?_
    refine Tr.valG rfl (V.move rfl) rfl ?_
    refine Tr.valG rfl (V.len Try.runUnderlying53 rfl) rfl ?_
    refine Tr.valG rfl (V.lss (b := true) rfl rfl (decide_eq_true (by omega))) rfl ?_
    refine Tr.val (V.pick rfl rfl) rfl ?_
    refine Tr.lNil ?_
    refine Tr.thenN ?_
    refine Tr.condT rfl ?_
    refine Tr.skip ?_
    refine Tr.thenN ?_
    refine Tr.seq ?_
    refine Tr.block ?_
    refine Tr.region ?_
    refine Tr.val (V.move rfl) rfl ?_
    refine Tr.val (V.move rfl) rfl ?_
    refine Tr.val (V.move rfl) rfl ?_
    refine Tr.val (V.move rfl) rfl ?_
    refine Tr.val (V.idxS (j := i) Try.runUnderlying53 Try.sizeOf3 rfl rfl (by omega) (by omega) hp) rfl ?_
    refine Tr.val (V.load1 Try.isAgg3 rfl (V.cellR (hx.old) (by rw [List.getElem?_map, ha]; rfl))) rfl ?_
    refine Tr.val (V.convN_8 (a := a) Try.runUnderlying3 Try.runUnderlying5 rfl) rfl ?_
    refine Tr.val (V.idxO (j := i) (o' := i) Try.runUnderlying29 Try.sizeOf5 rfl rfl (by omega) (by omega) (by omega)) rfl ?_
    refine Tr.op (W.store1E (cs := ((xs.take i).map (BitVec.ofNat 8) ++ List.replicate (size - i) 0#8).map U8) (v := U8 (BitVec.ofNat 8 a)) (cs' := ((xs.take (i + 1)).map (BitVec.ofNat 8) ++ List.replicate (size - (i + 1)) 0#8).map U8) Try.sizeOf5 rfl rfl rfl rfl (by rw [← hset, List.map_set]) (by repeat (first | exact Upd.head | apply Upd.tail)) (by simp; omega) ?_)
    refine Tr.lNil ?_
    refine Tr.inN ?_
    refine Tr.thenN ?_
    refine Tr.region ?_
    refine Tr.val (V.move rfl) rfl ?_
    refine Tr.val (V.add rfl rfl (by omega)) rfl ?_
    refine Tr.val (V.assign rfl) rfl ?_
    refine Tr.lNil ?_
    exact Tr.again (i + 1) ⟨by omega, by omega⟩ (by omega) (lk_cons rfl (lk_cons rfl (lk_cons rfl (lk_cons rfl (lk_nil _))))) (List.Sublist.refl _)
  · have hF : ((xs.take i).map (BitVec.ofNat 8) ++ List.replicate (size - i) 0#8) = toB xs size := by unfold toB; rw [List.take_of_length_le (by omega), List.take_of_length_le (by omega), hxl]
    refine Tr.seq ?_
    refine Tr.seq ?_
    refine Tr.region ?_
    refine Tr.val (V.move rfl) rfl ?_
    refine Tr.val (V.move rfl) rfl ?_
    refine Tr.val (V.lss (b := true) rfl rfl (decide_eq_true (by omega))) rfl ?_
    refine Tr.val (V.move rfl) rfl ?_
    refine Tr.valG rfl (V.move rfl) rfl ?_
    refine Tr.valG rfl (V.move rfl) rfl ?_
    refine Tr.valG rfl (V.len Try.runUnderlying53 rfl) rfl ?_
    refine Tr.valG rfl (V.lss (b := false) rfl rfl (decide_eq_false (by omega))) rfl ?_
    refine Tr.val (V.pick rfl rfl) rfl ?_
    refine Tr.lNil ?_
    refine Tr.thenN ?_
    refine Tr.condF rfl ?_
    refine Tr.exit ?_
    refine Tr.thenX ?_
    refine Tr.thenX ?_
    refine Tr.inHit ?_
    refine Tr.thenN ?_
    refine Tr.seq ?_
    refine Tr.region ?_
    refine Tr.val (V.move rfl) rfl ?_
    refine Tr.val (V.assign rfl) rfl ?_
    refine Tr.lNil ?_
    refine Tr.thenN ?_
    refine Tr.ret ?_
    refine Tr.out1 rfl (Res.tmp rfl) fun w hw => ?_
    exact ⟨g8, rfl, by rw [← hF]; exact hw, trivial⟩
  · have hF : ((xs.take i).map (BitVec.ofNat 8) ++ List.replicate (i - i) 0#8) = toB xs i := by unfold toB; rw [Nat.sub_self, show i - xs.length = 0 by omega]
    refine Tr.seq ?_
    refine Tr.seq ?_
    refine Tr.region ?_
    refine Tr.val (V.move rfl) rfl ?_
    refine Tr.val (V.move rfl) rfl ?_
    refine Tr.val (V.lss (b := false) rfl rfl (decide_eq_false (by omega))) rfl ?_
    refine Tr.val (V.move rfl) rfl ?_
    refine Tr.skipG rfl rfl rfl ?_
    refine Tr.skipG rfl rfl rfl ?_
    refine Tr.skipG rfl rfl rfl ?_
    refine Tr.skipG rfl rfl rfl ?_
    refine Tr.val (V.pick rfl rfl) rfl ?_
    refine Tr.lNil ?_
    refine Tr.thenN ?_
    refine Tr.condF rfl ?_
    refine Tr.exit ?_
    refine Tr.thenX ?_
    refine Tr.thenX ?_
    refine Tr.inHit ?_
    refine Tr.thenN ?_
    refine Tr.seq ?_
    refine Tr.region ?_
    refine Tr.val (V.move rfl) rfl ?_
    refine Tr.val (V.assign rfl) rfl ?_
    refine Tr.lNil ?_
    refine Tr.thenN ?_
    refine Tr.ret ?_
    refine Tr.out1 rfl (Res.tmp rfl) fun w hw => ?_
    exact ⟨g8, rfl, by rw [← hF]; exact hw, trivial⟩

end Go.Proofs.Ytgkndcincgpmdaa
