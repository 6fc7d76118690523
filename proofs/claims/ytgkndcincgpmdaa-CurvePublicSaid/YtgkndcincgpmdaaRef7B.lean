/-
  Contracts of hatchwayref07: Neg, Inv; of hatchwayref08: sub. (Printed by a program of this session over its walk printer.)
-/
import Derived.Test.YtgkndcincgpmdaaRef7
namespace Go.Proofs.Ytgkndcincgpmdaa
open Go.Sym Plain
set_option linter.unusedVariables false
set_option maxRecDepth 20000

theorem rneg_any (p : Option Addr) (c a : Nat) (w : World) (hx : Nums w p (dig a).length c (dig a)) (ha : a < FP) :
    Calls Try.prog 56 [.slice p (dig a).length c].toArray w (NumOut 3 w ((FP - a) % FP)) := by
  have l1 := dig32 ha
  have hle := hx.le
  have l2 : (dig (FP - a)).length ≤ 64 := Nat.le_trans (dig_mono (Nat.sub_le _ _)) (dig_len (by decide +kernel))
  refine Tr.enter Try.func56 rfl Try.ntmps56 rfl (Hp.refl w) ?_
  refine Tr.seq ?_
  refine Tr.region ?_
  refine Tr.val (V.assign rfl) rfl ?_
  refine Tr.lNil ?_
  refine Tr.thenN ?_
  refine Tr.seq ?_
  refine Tr.region ?_
  refine Tr.op (W.call (val := fun x : Nat × Nat × List Value => .slice (some ⟨x.1, 0, none⟩) 32 x.2.1) (N := fun x => [⟨x.1, 3, pD.map NV ++ x.2.2⟩]) (Px := fun x => (pD.map NV ++ x.2.2).length = x.2.1)  (args0) Try.call48 rfl (fun w1 hw => rp_any w1) fun y hy => ?_)
  refine Tr.val (V.assign rfl) rfl ?_
  refine Tr.lNil ?_
  refine Tr.thenN ?_
  refine Tr.seq ?_
  refine Tr.region ?_
  refine Tr.op (W.build elem53 W.parts0 rfl (by simp) (by omega) rfl fun g9 => ?_)
  refine Tr.val (V.assign rfl) rfl ?_
  refine Tr.lNil ?_
  refine Tr.thenN ?_
  refine Tr.seq ?_
  refine Tr.region ?_
  refine Tr.val (V.assign rfl) rfl ?_
  refine Tr.lNil ?_
  refine Tr.thenN ?_
  refine Tr.seq ?_
  refine Tr.seq ?_
  refine Tr.region ?_
  refine Tr.val (V.assign rfl) rfl ?_
  refine Tr.lNil ?_
  refine Tr.thenN ?_
  refine Tr.block ?_
  refine Tr.loop (ι := Nat × Nat × List Nat × Nat × Nat × List Value) (fun x => x.1 ≤ 32 ∧ x.2.1 ≤ 1 ∧ x.2.2.1.length = x.1 ∧ Digs x.2.2.1 ∧ num x.2.2.1 + num ((dig a).take x.1) = num (pD.take x.1) + 256 ^ x.1 * x.2.1 ∧ (x.2.2.1.map NV ++ x.2.2.2.2.2).length = x.2.2.2.2.1) (fun x => [(0, .slice p (dig a).length c), (3, .slice (some ⟨y.1, 0, none⟩) 32 y.2.1), (4, .slice (some ⟨x.2.2.2.1, 0, none⟩) x.1 x.2.2.2.2.1), (5, NV x.2.1), (6, NV x.1)]) (fun x => [⟨x.2.2.2.1, 3, x.2.2.1.map NV ++ x.2.2.2.2.2⟩, ⟨y.1, 3, pD.map NV ++ y.2.2⟩]) (fun x => 32 - x.1) (0, 0, [], g9, 0, []) ⟨by simp only; omega, by simp only; omega, rfl, Digs.nil, by simp [num], rfl⟩ (lk_cons rfl (lk_cons rfl (lk_cons rfl (lk_cons rfl (lk_cons rfl (lk_nil _)))))) (List.Sublist.refl _) fun x hI => ?_
  obtain ⟨i, b, out, g, c1, junk⟩ := x
  obtain ⟨hi, hb, hol, hod, hnm, hok⟩ := hI
  simp only at hi hb hol hod hnm hok ⊢
  have h5 : (∃ pv av, i < 32 ∧ i < (dig a).length ∧ pD[i]? = some pv ∧ (dig a)[i]? = some av ∧ b + av ≤ pv) ∨ (∃ pv av, i < 32 ∧ i < (dig a).length ∧ pD[i]? = some pv ∧ (dig a)[i]? = some av ∧ pv < b + av) ∨ (∃ pv, i < 32 ∧ (dig a).length ≤ i ∧ pD[i]? = some pv) ∨ i = 32 := by
    rcases Nat.lt_or_ge i 32 with h | h
    · obtain ⟨pv, hpv⟩ : ∃ pv, pD[i]? = some pv := ⟨_, List.getElem?_eq_getElem (by rw [pD_len]; omega)⟩
      rcases Nat.lt_or_ge i (dig a).length with h2 | h2
      · obtain ⟨av, hav⟩ : ∃ av, (dig a)[i]? = some av := ⟨_, List.getElem?_eq_getElem h2⟩
        rcases Nat.lt_or_ge pv (b + av) with h3 | h3
        · exact .inr (.inl ⟨pv, av, h, h2, hpv, hav, h3⟩)
        · exact .inl ⟨pv, av, h, h2, hpv, hav, h3⟩
      · exact .inr (.inr (.inl ⟨pv, h, h2, hpv⟩))
    · exact .inr (.inr (.inr (by omega)))
  rcases h5 with ⟨pv, av, hlt, hia, hpv, hav, hge⟩ | ⟨pv, av, hlt, hia, hpv, hav, hge⟩ | ⟨pv, hlt, hia, hpv⟩ | rfl
  · have hp1 := pD_ge pv (mem_get hpv)
    have hp2 := pD_digs pv (mem_get hpv)
    have ha2 := dig_digs a av (mem_get hav)
    have hp := hx.some (by omega)
    obtain ⟨T, hT⟩ : ∃ T, T = pv - b - av := ⟨_, rfl⟩
    have hTl : T < 256 := by omega
    have hnum := neg_step (b' := 0) hol hnm hpv (.inl hav) (show T + av + b = pv + 256 * 0 by omega)
    refine Tr.seq ?_
    refine Tr.seq ?_
    refine Tr.region ?_
    refine Tr.val (V.move rfl) rfl ?_
    refine Tr.val (V.lss (b := true) rfl rfl (decide_eq_true (by omega))) rfl ?_
    refine Tr.lNil ?_
    refine Tr.thenN ?_
    refine Tr.condT rfl ?_
    refine Tr.skip ?_
    refine Tr.thenN ?_
    refine Tr.seq ?_
    refine Tr.block ?_
    refine Tr.seq ?_
    refine Tr.region ?_
    refine Tr.val (V.move rfl) rfl ?_
    refine Tr.val (V.move rfl) rfl ?_
    refine Tr.val (V.idxO (j := i) (o' := i) Try.runUnderlying53 Try.sizeOf3 rfl rfl (by omega) (by omega) (by omega)) rfl ?_
    refine Tr.val (V.load1 Try.isAgg3 rfl (V.cellB (by repeat (first | exact List.Mem.head _ | apply List.Mem.tail)) (by rw [List.getElem?_append_left (by rw [List.length_map, pD_len]; omega), List.getElem?_map, hpv]; rfl))) rfl ?_
    refine Tr.val (V.move rfl) rfl ?_
    refine Tr.val (V.subN rfl rfl (by omega) (by omega)) rfl ?_
    refine Tr.val (V.assign rfl) rfl ?_
    refine Tr.lNil ?_
    refine Tr.thenN ?_
    refine Tr.seq ?_
    refine Tr.seq ?_
    refine Tr.region ?_
    refine Tr.val (V.move rfl) rfl ?_
    refine Tr.val (V.move rfl) rfl ?_
    refine Tr.val (V.len Try.runUnderlying53 rfl) rfl ?_
    refine Tr.val (V.lss (b := true) rfl rfl (decide_eq_true (by omega))) rfl ?_
    refine Tr.lNil ?_
    refine Tr.thenN ?_
    refine Tr.condT rfl ?_
    refine Tr.region ?_
    refine Tr.val (V.move rfl) rfl ?_
    refine Tr.val (V.move rfl) rfl ?_
    refine Tr.val (V.move rfl) rfl ?_
    refine Tr.val (V.idxS (j := i) Try.runUnderlying53 Try.sizeOf3 rfl rfl (by omega) (by omega) hp) rfl ?_
    refine Tr.val (V.load1 Try.isAgg3 rfl (V.cellR (hx.old) (by rw [List.getElem?_map, hav]; rfl))) rfl ?_
    refine Tr.val ((by rw [hT]; exact V.subN rfl rfl (by omega) (by omega) : VOp Try.prog _ _ _ _ _ _ _ (NV T))) rfl ?_
    refine Tr.val (V.assign rfl) rfl ?_
    refine Tr.lNil ?_
    refine Tr.thenN ?_
    refine Tr.seq ?_
    refine Tr.region ?_
    refine Tr.val (V.assign rfl) rfl ?_
    refine Tr.lNil ?_
    refine Tr.thenN ?_
    refine Tr.seq ?_
    refine Tr.seq ?_
    refine Tr.region ?_
    refine Tr.val (V.move rfl) rfl ?_
    refine Tr.val (V.lss (b := false) rfl rfl (decide_eq_false (by omega))) rfl ?_
    refine Tr.lNil ?_
    refine Tr.thenN ?_
    refine Tr.condF rfl ?_
    refine Tr.skip ?_
    refine Tr.thenN ?_
    refine Tr.region ?_
    refine Tr.val (V.move rfl) rfl ?_
    refine Tr.val (V.move rfl) rfl ?_
    refine Tr.op (W.build (vs := [NV T]) elem53 (W.parts1 rfl) rfl (by simp [Value.cells]) (by omega) rfl fun g36 => ?_)
    refine Tr.op (W.append (m := i) (k := 1) (xs := out.map NV) (vs := [NV T]) (junk := junk) (L' := fun z => [⟨g36, 3, [NV T]⟩, z, ⟨y.1, 3, pD.map NV ++ y.2.2⟩]) elem53 rfl rfl (RdP.blk (cs := [NV T]) (List.Mem.head _) 0 1) rfl (by simp [Value.oneCell']) (fun z => .tail .head) (by rw [List.length_map, hol]) hok (by omega) (by omega) rfl fun g' c' junk' hc' => ?_)
    rw [show out.map NV ++ [NV T] = (out ++ [T]).map NV by rw [List.map_append]; rfl] at hc' ⊢
    refine Tr.val (V.assign rfl) rfl ?_
    refine Tr.lNil ?_
    refine Tr.inN ?_
    refine Tr.thenN ?_
    refine Tr.region ?_
    refine Tr.val (V.move rfl) rfl ?_
    refine Tr.val (V.add rfl rfl (by omega)) rfl ?_
    refine Tr.val (V.assign rfl) rfl ?_
    refine Tr.lNil ?_
    exact Tr.again (i + 1, 0, out ++ [T], g', c', junk') ⟨by simp only; omega, by simp only; omega, by simp only [List.length_append, hol]; rfl, hod.snoc hTl, hnum, hc'⟩ (by simp only; omega) (lk_cons rfl (lk_cons rfl (lk_cons rfl (lk_cons rfl (lk_cons rfl (lk_nil _)))))) (List.sublist_cons_self _ _)
  · have hp1 := pD_ge pv (mem_get hpv)
    have hp2 := pD_digs pv (mem_get hpv)
    have ha2 := dig_digs a av (mem_get hav)
    have hp := hx.some (by omega)
    obtain ⟨T, hT⟩ : ∃ T, T = pv + 256 - b - av := ⟨_, rfl⟩
    have hTl : T < 256 := by omega
    have hTi : ((pv - b : Nat) : Int) - (av : Int) + 256 = (T : Int) := by omega
    have hnum := neg_step (b' := 1) hol hnm hpv (.inl hav) (show T + av + b = pv + 256 * 1 by omega)
    refine Tr.seq ?_
    refine Tr.seq ?_
    refine Tr.region ?_
    refine Tr.val (V.move rfl) rfl ?_
    refine Tr.val (V.lss (b := true) rfl rfl (decide_eq_true (by omega))) rfl ?_
    refine Tr.lNil ?_
    refine Tr.thenN ?_
    refine Tr.condT rfl ?_
    refine Tr.skip ?_
    refine Tr.thenN ?_
    refine Tr.seq ?_
    refine Tr.block ?_
    refine Tr.seq ?_
    refine Tr.region ?_
    refine Tr.val (V.move rfl) rfl ?_
    refine Tr.val (V.move rfl) rfl ?_
    refine Tr.val (V.idxO (j := i) (o' := i) Try.runUnderlying53 Try.sizeOf3 rfl rfl (by omega) (by omega) (by omega)) rfl ?_
    refine Tr.val (V.load1 Try.isAgg3 rfl (V.cellB (by repeat (first | exact List.Mem.head _ | apply List.Mem.tail)) (by rw [List.getElem?_append_left (by rw [List.length_map, pD_len]; omega), List.getElem?_map, hpv]; rfl))) rfl ?_
    refine Tr.val (V.move rfl) rfl ?_
    refine Tr.val (V.subN rfl rfl (by omega) (by omega)) rfl ?_
    refine Tr.val (V.assign rfl) rfl ?_
    refine Tr.lNil ?_
    refine Tr.thenN ?_
    refine Tr.seq ?_
    refine Tr.seq ?_
    refine Tr.region ?_
    refine Tr.val (V.move rfl) rfl ?_
    refine Tr.val (V.move rfl) rfl ?_
    refine Tr.val (V.len Try.runUnderlying53 rfl) rfl ?_
    refine Tr.val (V.lss (b := true) rfl rfl (decide_eq_true (by omega))) rfl ?_
    refine Tr.lNil ?_
    refine Tr.thenN ?_
    refine Tr.condT rfl ?_
    refine Tr.region ?_
    refine Tr.val (V.move rfl) rfl ?_
    refine Tr.val (V.move rfl) rfl ?_
    refine Tr.val (V.move rfl) rfl ?_
    refine Tr.val (V.idxS (j := i) Try.runUnderlying53 Try.sizeOf3 rfl rfl (by omega) (by omega) hp) rfl ?_
    refine Tr.val (V.load1 Try.isAgg3 rfl (V.cellR (hx.old) (by rw [List.getElem?_map, hav]; rfl))) rfl ?_
    refine Tr.val (V.sub (i := ((pv - b : Nat) : Int)) (j := (av : Int)) rfl rfl (by omega)) rfl ?_
    refine Tr.val (V.assign rfl) rfl ?_
    refine Tr.lNil ?_
    refine Tr.thenN ?_
    refine Tr.seq ?_
    refine Tr.region ?_
    refine Tr.val (V.assign rfl) rfl ?_
    refine Tr.lNil ?_
    refine Tr.thenN ?_
    refine Tr.seq ?_
    refine Tr.seq ?_
    refine Tr.region ?_
    refine Tr.val (V.move rfl) rfl ?_
    refine Tr.val (V.lss (b := true) rfl rfl (decide_eq_true (by omega))) rfl ?_
    refine Tr.lNil ?_
    refine Tr.thenN ?_
    refine Tr.condT rfl ?_
    refine Tr.seq ?_
    refine Tr.region ?_
    refine Tr.val (V.move rfl) rfl ?_
    refine Tr.val ((by rw [← hTi]; exact V.add rfl rfl (by omega) : VOp Try.prog _ _ _ _ _ _ _ (.int .i64 (T : Int)))) rfl ?_
    refine Tr.val (V.assign rfl) rfl ?_
    refine Tr.lNil ?_
    refine Tr.thenN ?_
    refine Tr.region ?_
    refine Tr.val (V.assign rfl) rfl ?_
    refine Tr.lNil ?_
    refine Tr.thenN ?_
    refine Tr.region ?_
    refine Tr.val (V.move rfl) rfl ?_
    refine Tr.val (V.move rfl) rfl ?_
    refine Tr.op (W.build (vs := [NV T]) elem53 (W.parts1 rfl) rfl (by simp [Value.cells]) (by omega) rfl fun g36 => ?_)
    refine Tr.op (W.append (m := i) (k := 1) (xs := out.map NV) (vs := [NV T]) (junk := junk) (L' := fun z => [⟨g36, 3, [NV T]⟩, z, ⟨y.1, 3, pD.map NV ++ y.2.2⟩]) elem53 rfl rfl (RdP.blk (cs := [NV T]) (List.Mem.head _) 0 1) rfl (by simp [Value.oneCell']) (fun z => .tail .head) (by rw [List.length_map, hol]) hok (by omega) (by omega) rfl fun g' c' junk' hc' => ?_)
    rw [show out.map NV ++ [NV T] = (out ++ [T]).map NV by rw [List.map_append]; rfl] at hc' ⊢
    refine Tr.val (V.assign rfl) rfl ?_
    refine Tr.lNil ?_
    refine Tr.inN ?_
    refine Tr.thenN ?_
    refine Tr.region ?_
    refine Tr.val (V.move rfl) rfl ?_
    refine Tr.val (V.add rfl rfl (by omega)) rfl ?_
    refine Tr.val (V.assign rfl) rfl ?_
    refine Tr.lNil ?_
    exact Tr.again (i + 1, 1, out ++ [T], g', c', junk') ⟨by simp only; omega, by simp only; omega, by simp only [List.length_append, hol]; rfl, hod.snoc hTl, hnum, hc'⟩ (by simp only; omega) (lk_cons rfl (lk_cons rfl (lk_cons rfl (lk_cons rfl (lk_cons rfl (lk_nil _)))))) (List.sublist_cons_self _ _)
  · have hp1 := pD_ge pv (mem_get hpv)
    have hp2 := pD_digs pv (mem_get hpv)
    obtain ⟨T, hT⟩ : ∃ T, T = pv - b := ⟨_, rfl⟩
    have hTl : T < 256 := by omega
    have hnum := neg_step (b' := 0) hol hnm hpv (.inr ⟨hia, rfl⟩) (show T + 0 + b = pv + 256 * 0 by omega)
    refine Tr.seq ?_
    refine Tr.seq ?_
    refine Tr.region ?_
    refine Tr.val (V.move rfl) rfl ?_
    refine Tr.val (V.lss (b := true) rfl rfl (decide_eq_true (by omega))) rfl ?_
    refine Tr.lNil ?_
    refine Tr.thenN ?_
    refine Tr.condT rfl ?_
    refine Tr.skip ?_
    refine Tr.thenN ?_
    refine Tr.seq ?_
    refine Tr.block ?_
    refine Tr.seq ?_
    refine Tr.region ?_
    refine Tr.val (V.move rfl) rfl ?_
    refine Tr.val (V.move rfl) rfl ?_
    refine Tr.val (V.idxO (j := i) (o' := i) Try.runUnderlying53 Try.sizeOf3 rfl rfl (by omega) (by omega) (by omega)) rfl ?_
    refine Tr.val (V.load1 Try.isAgg3 rfl (V.cellB (by repeat (first | exact List.Mem.head _ | apply List.Mem.tail)) (by rw [List.getElem?_append_left (by rw [List.length_map, pD_len]; omega), List.getElem?_map, hpv]; rfl))) rfl ?_
    refine Tr.val (V.move rfl) rfl ?_
    refine Tr.val ((by rw [hT]; exact V.subN rfl rfl (by omega) (by omega) : VOp Try.prog _ _ _ _ _ _ _ (NV T))) rfl ?_
    refine Tr.val (V.assign rfl) rfl ?_
    refine Tr.lNil ?_
    refine Tr.thenN ?_
    refine Tr.seq ?_
    refine Tr.seq ?_
    refine Tr.region ?_
    refine Tr.val (V.move rfl) rfl ?_
    refine Tr.val (V.move rfl) rfl ?_
    refine Tr.val (V.len Try.runUnderlying53 rfl) rfl ?_
    refine Tr.val (V.lss (b := false) rfl rfl (decide_eq_false (by omega))) rfl ?_
    refine Tr.lNil ?_
    refine Tr.thenN ?_
    refine Tr.condF rfl ?_
    refine Tr.skip ?_
    refine Tr.thenN ?_
    refine Tr.seq ?_
    refine Tr.region ?_
    refine Tr.val (V.assign rfl) rfl ?_
    refine Tr.lNil ?_
    refine Tr.thenN ?_
    refine Tr.seq ?_
    refine Tr.seq ?_
    refine Tr.region ?_
    refine Tr.val (V.move rfl) rfl ?_
    refine Tr.val (V.lss (b := false) rfl rfl (decide_eq_false (by omega))) rfl ?_
    refine Tr.lNil ?_
    refine Tr.thenN ?_
    refine Tr.condF rfl ?_
    refine Tr.skip ?_
    refine Tr.thenN ?_
    refine Tr.region ?_
    refine Tr.val (V.move rfl) rfl ?_
    refine Tr.val (V.move rfl) rfl ?_
    refine Tr.op (W.build (vs := [NV T]) elem53 (W.parts1 rfl) rfl (by simp [Value.cells]) (by omega) rfl fun g36 => ?_)
    refine Tr.op (W.append (m := i) (k := 1) (xs := out.map NV) (vs := [NV T]) (junk := junk) (L' := fun z => [⟨g36, 3, [NV T]⟩, z, ⟨y.1, 3, pD.map NV ++ y.2.2⟩]) elem53 rfl rfl (RdP.blk (cs := [NV T]) (List.Mem.head _) 0 1) rfl (by simp [Value.oneCell']) (fun z => .tail .head) (by rw [List.length_map, hol]) hok (by omega) (by omega) rfl fun g' c' junk' hc' => ?_)
    rw [show out.map NV ++ [NV T] = (out ++ [T]).map NV by rw [List.map_append]; rfl] at hc' ⊢
    refine Tr.val (V.assign rfl) rfl ?_
    refine Tr.lNil ?_
    refine Tr.inN ?_
    refine Tr.thenN ?_
    refine Tr.region ?_
    refine Tr.val (V.move rfl) rfl ?_
    refine Tr.val (V.add rfl rfl (by omega)) rfl ?_
    refine Tr.val (V.assign rfl) rfl ?_
    refine Tr.lNil ?_
    exact Tr.again (i + 1, 0, out ++ [T], g', c', junk') ⟨by simp only; omega, by simp only; omega, by simp only [List.length_append, hol]; rfl, hod.snoc hTl, hnum, hc'⟩ (by simp only; omega) (lk_cons rfl (lk_cons rfl (lk_cons rfl (lk_cons rfl (lk_cons rfl (lk_nil _)))))) (List.sublist_cons_self _ _)
  · refine Tr.seq ?_
    refine Tr.seq ?_
    refine Tr.region ?_
    refine Tr.val (V.move rfl) rfl ?_
    refine Tr.val (V.lss (b := false) rfl rfl (decide_eq_false (by omega))) rfl ?_
    refine Tr.lNil ?_
    refine Tr.thenN ?_
    refine Tr.condF rfl ?_
    refine Tr.exit ?_
    refine Tr.thenX ?_
    refine Tr.thenX ?_
    refine Tr.inHit ?_
    refine Tr.thenN ?_
    refine Tr.seq ?_
    refine Tr.region ?_
    refine Tr.val (V.move rfl) rfl ?_
    refine Tr.op (W.callNum (N := FP - a)  (args1 rfl) Try.call57 rfl (fun w1 hw => by have h := carry_any (some ⟨g, 0, none⟩) 32 c1 out w1 (Nums.own hw (by repeat (first | exact List.Mem.head _ | apply List.Mem.tail)) hol hok) (by omega) (fun z hz => by have := hod z hz; omega); rw [neg_done hol hod ha hnm] at h; exact h) fun g39 c39 junk39 hc39 => ?_)
    refine Tr.op (W.callMod (N := (FP - a) % FP) (xs := dig (FP - a)) (junk0 := junk39)  (args1 rfl) Try.call43 rfl (List.Perm.refl _) hc39 (fun w1 hw => rmod_any (some ⟨g39, 0, none⟩) _ c39 (FP - a) w1 (Nums.own hw (by repeat (first | exact List.Mem.head _ | apply List.Mem.tail)) rfl hc39) (by omega)) fun g40 c40 junk40 hc40 => ?_)
    refine Tr.val (V.assign rfl) rfl ?_
    refine Tr.lNil ?_
    refine Tr.thenN ?_
    refine Tr.ret ?_
    refine Tr.out1 rfl (Res.tmp rfl) fun w hw => ?_
    exact ⟨⟨g40, c40, junk40⟩, rfl, hw.sub (.cons_cons _ (List.nil_sublist _)), hc40⟩

theorem rsub_any (p q : Option Addr) (c c2 N M : Nat) (w : World) (hx : Nums w p (dig N).length c (dig N)) (hy : Nums w q (dig M).length c2 (dig M)) (hN : N < FP) (hM : M < FP) :
    Calls Try.prog 45 [.slice p (dig N).length c, .slice q (dig M).length c2].toArray w (NumOut 3 w (fsub N M)) := by
  refine Tr.enter Try.func45 rfl Try.ntmps45 rfl (Hp.refl w) ?_
  refine Tr.seq ?_
  refine Tr.region ?_
  refine Tr.val (V.assign rfl) rfl ?_
  refine Tr.lNil ?_
  refine Tr.thenN ?_
  refine Tr.seq ?_
  refine Tr.region ?_
  refine Tr.val (V.move rfl) rfl ?_
  refine Tr.val (V.move rfl) rfl ?_
  refine Tr.op (W.callNum (N := (FP - M) % FP)  (args1 rfl) Try.call56 rfl (fun w1 hw => by have h := rneg_any q c2 M w1 (hy.now hw) hM; exact h) fun g7 c7 junk7 hc7 => ?_)
  refine Tr.op (W.callNum (N := fsub N M)  (args2 rfl rfl) Try.call44 rfl (fun w1 hw => by have h := radd_any p (some ⟨g7, 0, none⟩) c c7 N ((FP - M) % FP) w1 (hx.now hw) (Nums.own hw (by repeat (first | exact List.Mem.head _ | apply List.Mem.tail)) rfl hc7) hN (Nat.mod_lt _ (by decide)); rw [fsub_neg] at h; exact h) fun g8 c8 junk8 hc8 => ?_)
  refine Tr.val (V.assign rfl) rfl ?_
  refine Tr.lNil ?_
  refine Tr.thenN ?_
  refine Tr.ret ?_
  refine Tr.out1 rfl (Res.tmp rfl) fun w hw => ?_
  exact ⟨⟨g8, c8, junk8⟩, rfl, hw.sub (.cons_cons _ (List.nil_sublist _)), hc8⟩

theorem rinv_any (p : Option Addr) (c a : Nat) (w : World) (hx : Nums w p (dig a).length c (dig a)) (ha : a < FP) :
    Calls Try.prog 29 [.slice p (dig a).length c].toArray w (NumOut 3 w (invR a 255)) := by
  refine Tr.enter Try.func29 rfl Try.ntmps29 rfl (Hp.refl w) ?_
  refine Tr.seq ?_
  refine Tr.region ?_
  refine Tr.val (V.assign rfl) rfl ?_
  refine Tr.lNil ?_
  refine Tr.thenN ?_
  refine Tr.seq ?_
  refine Tr.region ?_
  refine Tr.op (W.call (val := fun x : Nat × Nat × List Value => .slice (some ⟨x.1, 0, none⟩) 32 x.2.1) (N := fun x => [⟨x.1, 3, pD.map NV ++ x.2.2⟩]) (Px := fun x => (pD.map NV ++ x.2.2).length = x.2.1)  (args0) Try.call48 rfl (fun w1 hw => rp_any w1) fun y hy => ?_)
  refine Tr.val (V.assign rfl) rfl ?_
  refine Tr.lNil ?_
  refine Tr.thenN ?_
  refine Tr.seq ?_
  refine Tr.region ?_
  refine Tr.val (V.move rfl) rfl ?_
  refine Tr.val (V.idxO (j := 0) (o' := 0) Try.runUnderlying53 Try.sizeOf3 rfl rfl (by omega) (by omega) (by omega)) rfl ?_
  refine Tr.op (W.store1E (cs := pD.map NV ++ y.2.2) (v := NV 235) (cs' := eD.map NV ++ y.2.2) Try.sizeOf3 rfl rfl rfl rfl (by rw [List.set_append_left _ _ (by decide), eD, List.map_set]) (by repeat (first | exact Upd.head | apply Upd.tail)) (by rw [List.length_append, List.length_map, pD_len]; omega) ?_)
  refine Tr.lNil ?_
  refine Tr.thenN ?_
  refine Tr.seq ?_
  refine Tr.region ?_
  refine Tr.op (W.build (vs := [NV 1]) elem53 (fun a _ => by simp [Act.eval, List.range'_succ]) rfl (by simp [Value.cells]) (by omega) rfl fun g9 => ?_)
  refine Tr.val (V.assign rfl) rfl ?_
  refine Tr.lNil ?_
  refine Tr.thenN ?_
  refine Tr.seq ?_
  refine Tr.seq ?_
  refine Tr.region ?_
  refine Tr.val (V.assign rfl) rfl ?_
  refine Tr.lNil ?_
  refine Tr.thenN ?_
  refine Tr.block ?_
  refine Tr.loop (ι := Nat × Nat × Nat × List Value) (fun x => x.1 ≤ 255 ∧ ((dig (invR a x.1)).map NV ++ x.2.2.2).length = x.2.2.1) (fun x => [(0, .slice p (dig a).length c), (3, .slice (some ⟨y.1, 0, none⟩) 32 y.2.1), (4, .slice (some ⟨x.2.1, 0, none⟩) (dig (invR a x.1)).length x.2.2.1), (5, .int .i64 (254 - (x.1 : Int)))]) (fun x => [⟨x.2.1, 3, (dig (invR a x.1)).map NV ++ x.2.2.2⟩, ⟨y.1, 3, eD.map NV ++ y.2.2⟩]) (fun x => 255 - x.1) (0, g9, 1, []) ⟨by simp only; omega, by simp only [invR, dig_one]; rfl⟩ (lk_cons rfl (lk_cons rfl (lk_cons (by simp only [invR, dig_one]; rfl) (lk_cons rfl (lk_nil _))))) (by simp only [invR, dig_one]; exact List.Sublist.refl _) fun x hI => ?_
  obtain ⟨k, g, c1, junk⟩ := x
  obtain ⟨hk, hok⟩ := hI
  simp only at hk hok ⊢
  obtain ⟨Q0, hV⟩ : ∃ Q0, Q0 = invR a k := ⟨_, rfl⟩
  have hVl : Q0 < FP := by rw [hV]; exact invR_lt a k
  rw [← hV] at hok ⊢
  refine Tr.seq ?_
  refine Tr.seq ?_
  refine Tr.region ?_
  refine Tr.val (V.move rfl) rfl ?_
  refine Tr.val (V.geq rfl rfl rfl) rfl ?_
  refine Tr.lNil ?_
  refine Tr.thenN ?_
  refine Tr.cond rfl (fun hT0 => ?_) (fun hF0 => ?_)
  · simp only [decide_eq_true_eq] at hT0
    obtain ⟨s, hs⟩ : ∃ s : Nat, 254 - (k : Int) = (s : Int) := ⟨(254 - (k : Int)).toNat, by omega⟩
    rw [hs]
    have hs8 : s / 8 < 32 := by omega
    have hsl : s / 8 < eD.length := by rw [eD, List.length_set, pD_len]; exact hs8
    obtain ⟨ev, hev⟩ : ∃ ev, eD[s / 8]? = some ev := ⟨_, List.getElem?_eq_getElem hsl⟩
    have hbit : bitE s = decide (ev / 2 ^ (s % 8) % 2 = 1) := by
      unfold bitE
      rw [List.getD_eq_getElem?_getD, hev]; rfl
    have hnv : invR a (k + 1) = if bitE s then fmul (fmul Q0 Q0) a else fmul Q0 Q0 := by rw [invR, ← hV, show 254 - k = s by omega]
    refine Tr.skip ?_
    refine Tr.thenN ?_
    refine Tr.seq ?_
    refine Tr.block ?_
    refine Tr.seq ?_
    refine Tr.region ?_
    refine Tr.val (V.move rfl) rfl ?_
    refine Tr.val (V.move rfl) rfl ?_
    refine Tr.op (W.callNum (N := fmul Q0 Q0)  (args2 rfl rfl) Try.call28 rfl (fun w1 hw => by have h := rmul_any (some ⟨g, 0, none⟩) (some ⟨g, 0, none⟩) c1 c1 Q0 Q0 w1 (Nums.own hw (by repeat (first | exact List.Mem.head _ | apply List.Mem.tail)) rfl hok) (Nums.own hw (by repeat (first | exact List.Mem.head _ | apply List.Mem.tail)) rfl hok) hVl hVl; exact h) fun g16 c16 junk16 hc16 => ?_)
    refine Tr.val (V.assign rfl) rfl ?_
    refine Tr.lNil ?_
    refine Tr.thenN ?_
    refine Tr.seq ?_
    refine Tr.region ?_
    refine Tr.val (V.move rfl) rfl ?_
    refine Tr.val (V.move rfl) rfl ?_
    refine Tr.val (V.quoN (b := 8) rfl rfl (by omega) (by omega)) rfl ?_
    refine Tr.val (V.idxO (j := (s / 8)) (o' := (s / 8)) Try.runUnderlying53 Try.sizeOf3 rfl rfl (by omega) (by omega) (by omega)) rfl ?_
    refine Tr.val (V.load1 Try.isAgg3 rfl (V.cellB (by repeat (first | exact List.Mem.head _ | apply List.Mem.tail)) (by rw [List.getElem?_append_left (by rw [List.length_map]; exact hsl), List.getElem?_map, hev]; rfl))) rfl ?_
    refine Tr.val (V.move rfl) rfl ?_
    refine Tr.val (V.remN (b := 8) rfl rfl (by omega)) rfl ?_
    refine Tr.val (V.convN_64 Try.runUnderlying3 Try.runUnderlying57 rfl (by omega) (by omega)) rfl ?_
    refine Tr.val (V.shrN rfl rfl (by omega)) rfl ?_
    refine Tr.val (V.mask (k := 1) rfl rfl (by decide)) rfl ?_
    refine Tr.val (V.eql rfl rfl rfl) rfl ?_
    refine Tr.lNil ?_
    refine Tr.thenN ?_
    refine Tr.cond rfl (fun hT1 => ?_) (fun hF1 => ?_)
    · simp only [decide_eq_true_eq] at hT1
      have hnx : invR a (k + 1) = fmul (fmul Q0 Q0) a := by rw [hnv, hbit, if_pos (decide_eq_true (by omega))]
      refine Tr.region ?_
      refine Tr.val (V.move rfl) rfl ?_
      refine Tr.val (V.move rfl) rfl ?_
      refine Tr.op (W.callNum (N := fmul (fmul Q0 Q0) a)  (args2 rfl rfl) Try.call28 rfl (fun w1 hw => by have h := rmul_any (some ⟨g16, 0, none⟩) p c16 c (fmul Q0 Q0) a w1 (Nums.own hw (by repeat (first | exact List.Mem.head _ | apply List.Mem.tail)) rfl hc16) (hx.now hw) (fmul_lt _ _) ha; exact h) fun g30 c30 junk30 hc30 => ?_)
      refine Tr.val (V.assign rfl) rfl ?_
      refine Tr.lNil ?_
      refine Tr.inN ?_
      refine Tr.thenN ?_
      refine Tr.region ?_
      refine Tr.val (V.move rfl) rfl ?_
      refine Tr.val (V.sub rfl rfl (by omega)) rfl ?_
      refine Tr.val (V.assign rfl) rfl ?_
      refine Tr.lNil ?_
      first | (exact Tr.again (k + 1, g30, c30, junk30) ⟨by simp only; omega, by rw [hnx]; exact hc30⟩ (by simp only; omega) (lk_cons rfl (lk_cons rfl (lk_cons (by rw [hnx]; rfl) (lk_cons (congrArg some (congrArg (Value.int .i64) (by omega))) (lk_nil _))))) (by rw [hnx]; exact .cons_cons _ (.cons _ (.cons _ (List.Sublist.refl _))))) | (exact Tr.again (k + 1, g16, c16, junk16) ⟨by simp only; omega, by rw [hnx]; exact hc16⟩ (by simp only; omega) (lk_cons rfl (lk_cons rfl (lk_cons (by rw [hnx]; rfl) (lk_cons (congrArg some (congrArg (Value.int .i64) (by omega))) (lk_nil _))))) (by rw [hnx]; exact .cons_cons _ (.cons _ (List.Sublist.refl _))))
    · simp only [decide_eq_false_iff_not] at hF1
      have hnx : invR a (k + 1) = fmul Q0 Q0 := by rw [hnv, hbit, if_neg (by simp only [decide_eq_true_eq]; omega)]
      refine Tr.skip ?_
      refine Tr.inN ?_
      refine Tr.thenN ?_
      refine Tr.region ?_
      refine Tr.val (V.move rfl) rfl ?_
      refine Tr.val (V.sub rfl rfl (by omega)) rfl ?_
      refine Tr.val (V.assign rfl) rfl ?_
      refine Tr.lNil ?_
      first | (exact Tr.again (k + 1, g30, c30, junk30) ⟨by simp only; omega, by rw [hnx]; exact hc30⟩ (by simp only; omega) (lk_cons rfl (lk_cons rfl (lk_cons (by rw [hnx]; rfl) (lk_cons (congrArg some (congrArg (Value.int .i64) (by omega))) (lk_nil _))))) (by rw [hnx]; exact .cons_cons _ (.cons _ (.cons _ (List.Sublist.refl _))))) | (exact Tr.again (k + 1, g16, c16, junk16) ⟨by simp only; omega, by rw [hnx]; exact hc16⟩ (by simp only; omega) (lk_cons rfl (lk_cons rfl (lk_cons (by rw [hnx]; rfl) (lk_cons (congrArg some (congrArg (Value.int .i64) (by omega))) (lk_nil _))))) (by rw [hnx]; exact .cons_cons _ (.cons _ (List.Sublist.refl _))))
  · simp only [decide_eq_false_iff_not] at hF0
    obtain rfl : k = 255 := by omega
    refine Tr.exit ?_
    refine Tr.thenX ?_
    refine Tr.thenX ?_
    refine Tr.inHit ?_
    refine Tr.thenN ?_
    refine Tr.seq ?_
    refine Tr.region ?_
    refine Tr.val (V.move rfl) rfl ?_
    refine Tr.val (V.assign rfl) rfl ?_
    refine Tr.lNil ?_
    refine Tr.thenN ?_
    refine Tr.ret ?_
    refine Tr.out1 rfl (Res.tmp rfl) fun w hw => ?_
    exact ⟨⟨g, c1, junk⟩, by rw [hV], by rw [← hV]; exact hw.sub (.cons_cons _ (List.nil_sublist _)), by rw [← hV]; exact hok⟩

end Go.Proofs.Ytgkndcincgpmdaa
