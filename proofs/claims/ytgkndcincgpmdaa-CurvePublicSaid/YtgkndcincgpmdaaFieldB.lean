/-
  Contracts of package field: Add, Sub, Mul, times. (Printed by a program of this session over its walk printer.)
-/
import Derived.Test.YtgkndcincgpmdaaFieldA
namespace Go.Proofs.Ytgkndcincgpmdaa
open Go.Sym Plain
set_option linter.unusedVariables false
set_option maxRecDepth 20000

theorem eadd_any (l m : List (BitVec 64)) (w : World) (hl : l.length = 5) (hm : m.length = 5) : Calls Try.prog 34 [.agg (l.map U64).toArray, .agg (m.map U64).toArray].toArray w fun r w' => r = .returned (.agg ((addL l m).map U64).toArray) ∧ Hp w [] [] w' := by
  have hal : (addL l m).length = 5 := by rw [addL, carriedL_len, addTo_len, hl]
  have hal2 : ∀ i, (addTo l m i).length = 5 := fun i => by rw [addTo_len, hl]
  refine Tr.enter Try.func34 rfl Try.ntmps34 rfl (Hp.refl w) ?_
  refine Tr.seq ?_
  refine Tr.region ?_
  refine Tr.op (W.box (cs := l.map U64) rfl rfl rfl fun g2 => ?_)
  refine Tr.op (W.box (cs := m.map U64) rfl rfl rfl fun g3 => ?_)
  refine Tr.op (W.alloc (cs := [0#64, 0#64, 0#64, 0#64, 0#64].map U64) Try.zeroValue41 rfl rfl fun g4 => ?_)
  refine Tr.lNil ?_
  refine Tr.thenN ?_
  refine Tr.seq ?_
  refine Tr.seq ?_
  refine Tr.region ?_
  refine Tr.val (V.move rfl) rfl ?_
  refine Tr.lNil ?_
  refine Tr.thenN ?_
  refine Tr.block ?_
  refine Tr.loop (ι := Nat) (fun i => i ≤ 5) (fun i => [(2, .pointer (some ⟨g2, 0, none⟩)), (3, .pointer (some ⟨g3, 0, none⟩)), (4, .pointer (some ⟨g4, 0, none⟩)), (6, NV i)]) (fun i => [⟨g4, 41, [0#64, 0#64, 0#64, 0#64, 0#64].map U64⟩, ⟨g3, 41, m.map U64⟩, ⟨g2, 41, (addTo l m i).map U64⟩]) (fun i => 5 - i) 0 (Nat.zero_le _) (lk_cons rfl (lk_cons rfl (lk_cons rfl (lk_cons rfl (lk_nil _))))) (List.Sublist.refl _) fun i hI => ?_
  refine Tr.seq ?_
  refine Tr.region ?_
  refine Tr.val (V.lss rfl rfl rfl) rfl ?_
  refine Tr.lNil ?_
  refine Tr.thenN ?_
  refine Tr.seq ?_
  refine Tr.cond rfl (fun hT0 => ?_) (fun hF0 => ?_)
  · simp only [decide_eq_true_eq] at hT0
    have hlt : i < 5 := by omega
    refine Tr.skip ?_
    refine Tr.thenN ?_
    refine Tr.seq ?_
    refine Tr.block ?_
    refine Tr.seq ?_
    refine Tr.region ?_
    refine Tr.val (V.move rfl) rfl ?_
    refine Tr.val (V.assign rfl) rfl ?_
    refine Tr.lNil ?_
    refine Tr.thenN ?_
    refine Tr.regionD [0, 0, 3, 7, 0, 0, 48, 112, 255, 0, 1023, 2047] [11] (.pure 0 (.pure 1 (.pure 2 (.soft 3 (.pure 4 (.pure 5 (.pure 6 (.soft 7 (.pure 8 (.pure 9 (.pure 10 (.hard 11 .done)))))))))))) mixed (by kernel_rfl) ?_
    refine TrP.pure rfl (fun _ => V.move rfl) rfl ?_
    refine TrP.pure rfl (fun _ => V.fieldS (o' := 0) Try.runUnderlying41 rfl rfl Try.sizeOf39 (by omega) rfl) rfl ?_
    refine TrP.pure rfl (fun _ => V.idxA (j := i) (o' := i) Try.runUnderlying39 Try.sizeOf38 rfl rfl (by omega) (by omega) (by omega)) rfl ?_
    refine TrP.soft rfl (V.load1 Try.isAgg38 rfl (V.cellB (by repeat (first | exact List.Mem.head _ | apply List.Mem.tail)) (getU _ i (by rw [hal2]; omega)))) rfl ?_
    refine TrP.pure rfl (fun _ => V.move rfl) rfl ?_
    refine TrP.pure rfl (fun _ => V.fieldS (o' := 0) Try.runUnderlying41 rfl rfl Try.sizeOf39 (by omega) rfl) rfl ?_
    refine TrP.pure rfl (fun _ => V.idxA (j := i) (o' := i) Try.runUnderlying39 Try.sizeOf38 rfl rfl (by omega) (by omega) (by omega)) rfl ?_
    refine TrP.soft rfl (V.load1 Try.isAgg38 rfl (V.cellB (by repeat (first | exact List.Mem.head _ | apply List.Mem.tail)) (getU m i (by omega)))) rfl ?_
    refine TrP.pure rfl (fun _ => V.add64 rfl rfl) rfl ?_
    refine TrP.pure rfl (fun _ => V.fieldS (o' := 0) Try.runUnderlying41 rfl rfl Try.sizeOf39 (by omega) rfl) rfl ?_
    refine TrP.pure rfl (fun _ => V.idxA (j := i) (o' := i) Try.runUnderlying39 Try.sizeOf38 rfl rfl (by omega) (by omega) (by omega)) rfl ?_
    refine TrP.hard rfl (W.store1E (cs := (addTo l m i).map U64) (v := U64 ((addTo l m i).getD i 0#64 + m.getD i 0#64)) (cs' := (addTo l m (i + 1)).map U64) Try.sizeOf38 rfl rfl rfl rfl (by rw [addTo, List.map_set]) (by repeat (first | exact Upd.head | apply Upd.tail)) (by rw [List.length_map, hal2]; omega) ?_)
    refine Tr.pTail rfl ?_
    refine TrP.done ?_
    refine Tr.inN ?_
    refine Tr.thenN ?_
    refine Tr.region ?_
    refine Tr.val (V.add rfl rfl (by omega)) rfl ?_
    refine Tr.val (V.move rfl) rfl ?_
    refine Tr.lNil ?_
    exact Tr.again (i + 1) (by omega) (by omega) (lk_cons rfl (lk_cons rfl (lk_cons rfl (lk_cons rfl (lk_nil _))))) (List.Sublist.refl _)
  · simp only [decide_eq_false_iff_not] at hF0
    obtain rfl : i = 5 := by omega
    refine Tr.exit ?_
    refine Tr.thenX ?_
    refine Tr.thenX ?_
    refine Tr.inHit ?_
    refine Tr.thenN ?_
    refine Tr.seq ?_
    refine Tr.region ?_
    refine Tr.val (V.fieldS (o' := 0) Try.runUnderlying41 rfl rfl Try.sizeOf39 (by omega) rfl) rfl ?_
    refine Tr.val (V.loadN (cs := (addTo l m 5).map U64) Try.isAgg39 (by rw [List.length_map, hal2]; exact Try.sizeOf39) rfl (V.cellsB (by repeat (first | exact List.Mem.head _ | apply List.Mem.tail)))) rfl ?_
    refine Tr.op (W.call1 (args1 rfl) Try.call39 rfl (fun w1 _ => carried_any (addTo l m 5) w1 (hal2 5)) ?_)
    refine Tr.op (W.storeAll (vs := (addL l m).map U64) (cs := [0#64, 0#64, 0#64, 0#64, 0#64].map U64) Try.sizeOf41 rfl rfl (by rw [List.length_map, hal]) rfl (one64 _) (by repeat (first | exact Upd.head | apply Upd.tail)) ?_)
    refine Tr.lNil ?_
    refine Tr.thenN ?_
    refine Tr.ret ?_
    refine Tr.out1 rfl (Res.cellN (cs := (addL l m).map U64) rfl Try.isAgg41 (by rw [List.length_map, hal]; exact Try.sizeOf41) (by repeat (first | exact List.Mem.head _ | apply List.Mem.tail))) fun w hw => ?_
    exact ⟨rfl, hw.sub (List.nil_sublist _)⟩

theorem esub_any (l m : List (BitVec 64)) (w : World) (hl : l.length = 5) (hm : m.length = 5) : Calls Try.prog 35 [.agg (l.map U64).toArray, .agg (m.map U64).toArray].toArray w fun r w' => r = .returned (.agg ((subL l m).map U64).toArray) ∧ Hp w [] [] w' := by
  have hal : (subL l m).length = 5 := by rw [subL, carriedL_len, subTo_len, hl]
  have hal2 : ∀ i, (subTo l m i).length = 5 := fun i => by rw [subTo_len, hl]
  refine Tr.enter Try.func35 rfl Try.ntmps35 rfl (Hp.refl w) ?_
  refine Tr.seq ?_
  refine Tr.region ?_
  refine Tr.op (W.box (cs := l.map U64) rfl rfl rfl fun g2 => ?_)
  refine Tr.op (W.box (cs := m.map U64) rfl rfl rfl fun g3 => ?_)
  refine Tr.op (W.alloc (cs := [0#64, 0#64, 0#64, 0#64, 0#64].map U64) Try.zeroValue41 rfl rfl fun g4 => ?_)
  refine Tr.lNil ?_
  refine Tr.thenN ?_
  refine Tr.seq ?_
  refine Tr.seq ?_
  refine Tr.region ?_
  refine Tr.val (V.move rfl) rfl ?_
  refine Tr.lNil ?_
  refine Tr.thenN ?_
  refine Tr.block ?_
  refine Tr.loop (ι := Nat) (fun i => i ≤ 5) (fun i => [(2, .pointer (some ⟨g2, 0, none⟩)), (3, .pointer (some ⟨g3, 0, none⟩)), (4, .pointer (some ⟨g4, 0, none⟩)), (7, NV i)]) (fun i => [⟨g4, 41, [0#64, 0#64, 0#64, 0#64, 0#64].map U64⟩, ⟨g3, 41, m.map U64⟩, ⟨g2, 41, (subTo l m i).map U64⟩]) (fun i => 5 - i) 0 (Nat.zero_le _) (lk_cons rfl (lk_cons rfl (lk_cons rfl (lk_cons rfl (lk_nil _))))) (List.Sublist.refl _) fun i hI => ?_
  refine Tr.seq ?_
  refine Tr.region ?_
  refine Tr.val (V.lss rfl rfl rfl) rfl ?_
  refine Tr.lNil ?_
  refine Tr.thenN ?_
  refine Tr.seq ?_
  refine Tr.cond rfl (fun hT0 => ?_) (fun hF0 => ?_)
  · simp only [decide_eq_true_eq] at hT0
    have hlt : i < 5 := by omega
    refine Tr.skip ?_
    refine Tr.thenN ?_
    refine Tr.seq ?_
    refine Tr.block ?_
    refine Tr.seq ?_
    refine Tr.region ?_
    refine Tr.val (V.move rfl) rfl ?_
    refine Tr.val (V.assign rfl) rfl ?_
    refine Tr.lNil ?_
    refine Tr.thenN ?_
    refine Tr.seq ?_
    refine Tr.region ?_
    refine Tr.val (V.assign (v := U64 9007199254740988#64) rfl) rfl ?_
    refine Tr.lNil ?_
    refine Tr.thenN ?_
    refine Tr.seq ?_
    refine Tr.seq ?_
    refine Tr.region ?_
    refine Tr.val (V.move rfl) rfl ?_
    refine Tr.val (V.eql rfl rfl rfl) rfl ?_
    refine Tr.lNil ?_
    refine Tr.thenN ?_
    refine Tr.cond rfl (fun hT1 => ?_) (fun hF1 => ?_)
    · simp only [decide_eq_true_eq] at hT1
      have hi0 : i = 0 := by omega
      refine Tr.region ?_
      refine Tr.val (V.move rfl) rfl ?_
      refine Tr.val ((by rw [show fourW i = 9007199254740988#64 - 72#64 by rw [hi0]; rfl]; exact V.sub64 (Y := 72#64) rfl rfl : VOp Try.prog _ _ _ _ _ _ _ (U64 (fourW i)))) rfl ?_
      refine Tr.val (V.assign rfl) rfl ?_
      refine Tr.lNil ?_
      refine Tr.thenN ?_
      refine Tr.regionD [0, 0, 3, 7, 0, 0, 0, 96, 224, 496, 1023, 0, 4095, 8191] [13] (.pure 0 (.pure 1 (.pure 2 (.soft 3 (.pure 4 (.pure 5 (.pure 6 (.pure 7 (.soft 8 (.pure 9 (.pure 10 (.pure 11 (.pure 12 (.hard 13 .done)))))))))))))) mixed (by kernel_rfl) ?_
      refine TrP.pure rfl (fun _ => V.move rfl) rfl ?_
      refine TrP.pure rfl (fun _ => V.fieldS (o' := 0) Try.runUnderlying41 rfl rfl Try.sizeOf39 (by omega) rfl) rfl ?_
      refine TrP.pure rfl (fun _ => V.idxA (j := i) (o' := i) Try.runUnderlying39 Try.sizeOf38 rfl rfl (by omega) (by omega) (by omega)) rfl ?_
      refine TrP.soft rfl (V.load1 Try.isAgg38 rfl (V.cellB (by repeat (first | exact List.Mem.head _ | apply List.Mem.tail)) (getU _ i (by rw [hal2]; omega)))) rfl ?_
      refine TrP.pure rfl (fun _ => V.move rfl) rfl ?_
      refine TrP.pure rfl (fun _ => V.move rfl) rfl ?_
      refine TrP.pure rfl (fun _ => V.fieldS (o' := 0) Try.runUnderlying41 rfl rfl Try.sizeOf39 (by omega) rfl) rfl ?_
      refine TrP.pure rfl (fun _ => V.idxA (j := i) (o' := i) Try.runUnderlying39 Try.sizeOf38 rfl rfl (by omega) (by omega) (by omega)) rfl ?_
      refine TrP.soft rfl (V.load1 Try.isAgg38 rfl (V.cellB (by repeat (first | exact List.Mem.head _ | apply List.Mem.tail)) (getU m i (by omega)))) rfl ?_
      refine TrP.pure rfl (fun _ => V.sub64 rfl rfl) rfl ?_
      refine TrP.pure rfl (fun _ => V.add64 rfl rfl) rfl ?_
      refine TrP.pure rfl (fun _ => V.fieldS (o' := 0) Try.runUnderlying41 rfl rfl Try.sizeOf39 (by omega) rfl) rfl ?_
      refine TrP.pure rfl (fun _ => V.idxA (j := i) (o' := i) Try.runUnderlying39 Try.sizeOf38 rfl rfl (by omega) (by omega) (by omega)) rfl ?_
      refine TrP.hard rfl (W.store1E (cs := (subTo l m i).map U64) (v := U64 ((subTo l m i).getD i 0#64 + (fourW i - m.getD i 0#64))) (cs' := (subTo l m (i + 1)).map U64) Try.sizeOf38 rfl rfl rfl rfl (by rw [subTo, List.map_set]) (by repeat (first | exact Upd.head | apply Upd.tail)) (by rw [List.length_map, hal2]; omega) ?_)
      refine Tr.pTail rfl ?_
      refine TrP.done ?_
      refine Tr.inN ?_
      refine Tr.thenN ?_
      refine Tr.region ?_
      refine Tr.val (V.add rfl rfl (by omega)) rfl ?_
      refine Tr.val (V.move rfl) rfl ?_
      refine Tr.lNil ?_
      exact Tr.again (i + 1) (by omega) (by omega) (lk_cons rfl (lk_cons rfl (lk_cons rfl (lk_cons rfl (lk_nil _))))) (List.Sublist.refl _)
    · simp only [decide_eq_false_iff_not] at hF1
      rw [show (9007199254740988#64 : BitVec 64) = fourW i by rw [fourW, if_neg (by omega)]]
      refine Tr.skip ?_
      refine Tr.thenN ?_
      refine Tr.regionD [0, 0, 3, 7, 0, 0, 0, 96, 224, 496, 1023, 0, 4095, 8191] [13] (.pure 0 (.pure 1 (.pure 2 (.soft 3 (.pure 4 (.pure 5 (.pure 6 (.pure 7 (.soft 8 (.pure 9 (.pure 10 (.pure 11 (.pure 12 (.hard 13 .done)))))))))))))) mixed (by kernel_rfl) ?_
      refine TrP.pure rfl (fun _ => V.move rfl) rfl ?_
      refine TrP.pure rfl (fun _ => V.fieldS (o' := 0) Try.runUnderlying41 rfl rfl Try.sizeOf39 (by omega) rfl) rfl ?_
      refine TrP.pure rfl (fun _ => V.idxA (j := i) (o' := i) Try.runUnderlying39 Try.sizeOf38 rfl rfl (by omega) (by omega) (by omega)) rfl ?_
      refine TrP.soft rfl (V.load1 Try.isAgg38 rfl (V.cellB (by repeat (first | exact List.Mem.head _ | apply List.Mem.tail)) (getU _ i (by rw [hal2]; omega)))) rfl ?_
      refine TrP.pure rfl (fun _ => V.move rfl) rfl ?_
      refine TrP.pure rfl (fun _ => V.move rfl) rfl ?_
      refine TrP.pure rfl (fun _ => V.fieldS (o' := 0) Try.runUnderlying41 rfl rfl Try.sizeOf39 (by omega) rfl) rfl ?_
      refine TrP.pure rfl (fun _ => V.idxA (j := i) (o' := i) Try.runUnderlying39 Try.sizeOf38 rfl rfl (by omega) (by omega) (by omega)) rfl ?_
      refine TrP.soft rfl (V.load1 Try.isAgg38 rfl (V.cellB (by repeat (first | exact List.Mem.head _ | apply List.Mem.tail)) (getU m i (by omega)))) rfl ?_
      refine TrP.pure rfl (fun _ => V.sub64 rfl rfl) rfl ?_
      refine TrP.pure rfl (fun _ => V.add64 rfl rfl) rfl ?_
      refine TrP.pure rfl (fun _ => V.fieldS (o' := 0) Try.runUnderlying41 rfl rfl Try.sizeOf39 (by omega) rfl) rfl ?_
      refine TrP.pure rfl (fun _ => V.idxA (j := i) (o' := i) Try.runUnderlying39 Try.sizeOf38 rfl rfl (by omega) (by omega) (by omega)) rfl ?_
      refine TrP.hard rfl (W.store1E (cs := (subTo l m i).map U64) (v := U64 ((subTo l m i).getD i 0#64 + (fourW i - m.getD i 0#64))) (cs' := (subTo l m (i + 1)).map U64) Try.sizeOf38 rfl rfl rfl rfl (by rw [subTo, List.map_set]) (by repeat (first | exact Upd.head | apply Upd.tail)) (by rw [List.length_map, hal2]; omega) ?_)
      refine Tr.pTail rfl ?_
      refine TrP.done ?_
      refine Tr.inN ?_
      refine Tr.thenN ?_
      refine Tr.region ?_
      refine Tr.val (V.add rfl rfl (by omega)) rfl ?_
      refine Tr.val (V.move rfl) rfl ?_
      refine Tr.lNil ?_
      exact Tr.again (i + 1) (by omega) (by omega) (lk_cons rfl (lk_cons rfl (lk_cons rfl (lk_cons rfl (lk_nil _))))) (List.Sublist.refl _)
  · simp only [decide_eq_false_iff_not] at hF0
    obtain rfl : i = 5 := by omega
    refine Tr.exit ?_
    refine Tr.thenX ?_
    refine Tr.thenX ?_
    refine Tr.inHit ?_
    refine Tr.thenN ?_
    refine Tr.seq ?_
    refine Tr.region ?_
    refine Tr.val (V.fieldS (o' := 0) Try.runUnderlying41 rfl rfl Try.sizeOf39 (by omega) rfl) rfl ?_
    refine Tr.val (V.loadN (cs := (subTo l m 5).map U64) Try.isAgg39 (by rw [List.length_map, hal2]; exact Try.sizeOf39) rfl (V.cellsB (by repeat (first | exact List.Mem.head _ | apply List.Mem.tail)))) rfl ?_
    refine Tr.op (W.call1 (args1 rfl) Try.call39 rfl (fun w1 _ => carried_any (subTo l m 5) w1 (hal2 5)) ?_)
    refine Tr.op (W.storeAll (vs := (subL l m).map U64) (cs := [0#64, 0#64, 0#64, 0#64, 0#64].map U64) Try.sizeOf41 rfl rfl (by rw [List.length_map, hal]) rfl (one64 _) (by repeat (first | exact Upd.head | apply Upd.tail)) ?_)
    refine Tr.lNil ?_
    refine Tr.thenN ?_
    refine Tr.ret ?_
    refine Tr.out1 rfl (Res.cellN (cs := (subL l m).map U64) rfl Try.isAgg41 (by rw [List.length_map, hal]; exact Try.sizeOf41) (by repeat (first | exact List.Mem.head _ | apply List.Mem.tail))) fun w hw => ?_
    exact ⟨rfl, hw.sub (List.nil_sublist _)⟩

set_option maxHeartbeats 1000000 in
theorem emul_any (l m : List (BitVec 64)) (w : World) (hl : l.length = 5) (hm : m.length = 5) : Calls Try.prog 23 [.agg (l.map U64).toArray, .agg (m.map U64).toArray].toArray w fun r w' => r = .returned (.agg ((mulL l m).map U64).toArray) ∧ Hp w [] [] w' := by
  obtain ⟨D, hD⟩ : ∃ D, D = accM l m 25 := ⟨_, rfl⟩
  have hDl : D.length = 5 := by rw [hD, accM_len]
  have hol : ∀ j, (outM D j).1.length = 5 ∧ (outM D j).2.1.length = 5 := fun j => ⟨by rw [(outM_len _ j).1, hDl], (outM_len _ j).2⟩
  obtain ⟨s, hs⟩ : ∃ s, s = (outM D 5).2 := ⟨_, rfl⟩
  have hsl : s.1.length = 5 := by rw [hs]; exact (hol 5).2
  obtain ⟨x0, hx0⟩ : ∃ x, x = s.1.getD 0 0#64 := ⟨_, rfl⟩
  obtain ⟨f, hf⟩ : ∃ f, f = x0.setWidth 128 + prodD s.2 19#64 := ⟨_, rfl⟩
  obtain ⟨s1, hs1⟩ : ∃ s1, s1 = s.1.set 0 (loD f &&& 2251799813685247#64) := ⟨_, rfl⟩
  have hs1l : s1.length = 5 := by rw [hs1, List.length_set, hsl]
  obtain ⟨s2, hs2⟩ : ∃ s2, s2 = s1.set 1 (s1.getD 1 0#64 + topD f) := ⟨_, rfl⟩
  have hs2l : s2.length = 5 := by rw [hs2, List.length_set, hs1l]
  have hml : mulL l m = carriedL s2 := by rw [hs2, hs1, hf, hx0, hs, hD]; rfl
  have hmll : (carriedL s2).length = 5 := by rw [carriedL_len, hs2l]
  rw [hml]
  refine Tr.enter Try.func23 rfl Try.ntmps23 rfl (Hp.refl w) ?_
  refine Tr.seq ?_
  refine Tr.region ?_
  refine Tr.op (W.box (cs := l.map U64) rfl rfl rfl fun g2 => ?_)
  refine Tr.op (W.box (cs := m.map U64) rfl rfl rfl fun g3 => ?_)
  refine Tr.op (W.alloc (cs := [0#64, 0#64, 0#64, 0#64, 0#64].map U64) Try.zeroValue41 rfl rfl fun g4 => ?_)
  refine Tr.lNil ?_
  refine Tr.thenN ?_
  refine Tr.seq ?_
  refine Tr.region ?_
  refine Tr.op (W.alloc (cs := dblC (accM l m 0)) Try.zeroValue72 rfl rfl fun g5 => ?_)
  refine Tr.lNil ?_
  refine Tr.thenN ?_
  refine Tr.seq ?_
  refine Tr.seq ?_
  refine Tr.region ?_
  refine Tr.val (V.fieldS (o' := 0) Try.runUnderlying41 rfl rfl Try.sizeOf39 (by omega) rfl) rfl ?_
  refine Tr.val (V.loadN (cs := l.map U64) Try.isAgg39 (by rw [List.length_map, hl]; exact Try.sizeOf39) rfl (V.cellsB (by repeat (first | exact List.Mem.head _ | apply List.Mem.tail)))) rfl ?_
  refine Tr.val (V.move rfl) rfl ?_
  refine Tr.lNil ?_
  refine Tr.thenN ?_
  refine Tr.block ?_
  refine Tr.loop (ι := Nat) (fun i => i ≤ 5) (fun i => [(2, .pointer (some ⟨g2, 0, none⟩)), (3, .pointer (some ⟨g3, 0, none⟩)), (4, .pointer (some ⟨g4, 0, none⟩)), (5, .pointer (some ⟨g5, 0, none⟩)), (15, .agg (l.map U64).toArray), (16, NV i)]) (fun i => [⟨g5, 72, dblC (accM l m (5 * i))⟩, ⟨g4, 41, [0#64, 0#64, 0#64, 0#64, 0#64].map U64⟩, ⟨g3, 41, m.map U64⟩, ⟨g2, 41, l.map U64⟩]) (fun i => 5 - i) 0 (Nat.zero_le _) (lk_cons rfl (lk_cons rfl (lk_cons rfl (lk_cons rfl (lk_cons rfl (lk_cons rfl (lk_nil _))))))) (List.Sublist.refl _) fun i hI => ?_
  refine Tr.seq ?_
  refine Tr.region ?_
  refine Tr.val (V.lss rfl rfl rfl) rfl ?_
  refine Tr.lNil ?_
  refine Tr.thenN ?_
  refine Tr.seq ?_
  refine Tr.cond rfl (fun hT0 => ?_) (fun hF0 => ?_)
  · simp only [decide_eq_true_eq] at hT0
    have hlt : i < 5 := by omega
    refine Tr.skip ?_
    refine Tr.thenN ?_
    refine Tr.seq ?_
    refine Tr.block ?_
    refine Tr.seq ?_
    refine Tr.region ?_
    refine Tr.val (V.move rfl) rfl ?_
    refine Tr.val (V.index1 (cs := l.map U64) (j := i) Try.runUnderlying39 Try.sizeOf38 Try.isAgg38 rfl rfl rfl (by omega) (getU l i (by omega))) rfl ?_
    refine Tr.val (V.assign rfl) rfl ?_
    refine Tr.val (V.assign rfl) rfl ?_
    refine Tr.lNil ?_
    refine Tr.thenN ?_
    refine Tr.seq ?_
    refine Tr.region ?_
    refine Tr.val (V.fieldS (o' := 0) Try.runUnderlying41 rfl rfl Try.sizeOf39 (by omega) rfl) rfl ?_
    refine Tr.val (V.loadN (cs := m.map U64) Try.isAgg39 (by rw [List.length_map, hm]; exact Try.sizeOf39) rfl (V.cellsB (by repeat (first | exact List.Mem.head _ | apply List.Mem.tail)))) rfl ?_
    refine Tr.val (V.move rfl) rfl ?_
    refine Tr.lNil ?_
    refine Tr.thenN ?_
    refine Tr.block ?_
    refine Tr.loop (ι := Nat) (fun k => k ≤ 5) (fun k => [(2, .pointer (some ⟨g2, 0, none⟩)), (3, .pointer (some ⟨g3, 0, none⟩)), (4, .pointer (some ⟨g4, 0, none⟩)), (5, .pointer (some ⟨g5, 0, none⟩)), (15, .agg (l.map U64).toArray), (16, NV i), (6, NV i), (7, U64 (l.getD i 0#64)), (21, .agg (m.map U64).toArray), (22, NV k)]) (fun k => [⟨g5, 72, dblC (accM l m (5 * i + k))⟩, ⟨g4, 41, [0#64, 0#64, 0#64, 0#64, 0#64].map U64⟩, ⟨g3, 41, m.map U64⟩, ⟨g2, 41, l.map U64⟩]) (fun k => 5 - k) 0 (Nat.zero_le _) (lk_cons rfl (lk_cons rfl (lk_cons rfl (lk_cons rfl (lk_cons rfl (lk_cons rfl (lk_cons rfl (lk_cons rfl (lk_cons rfl (lk_cons rfl (lk_nil _))))))))))) (List.Sublist.refl _) fun k hI => ?_
    refine Tr.seq ?_
    refine Tr.region ?_
    refine Tr.val (V.lss rfl rfl rfl) rfl ?_
    refine Tr.lNil ?_
    refine Tr.thenN ?_
    refine Tr.seq ?_
    refine Tr.cond rfl (fun hT1 => ?_) (fun hF1 => ?_)
    · simp only [decide_eq_true_eq] at hT1
      have hlk : k < 5 := by omega
      refine Tr.skip ?_
      refine Tr.thenN ?_
      refine Tr.seq ?_
      refine Tr.block ?_
      refine Tr.seq ?_
      refine Tr.region ?_
      refine Tr.val (V.move rfl) rfl ?_
      refine Tr.val (V.index1 (cs := m.map U64) (j := k) Try.runUnderlying39 Try.sizeOf38 Try.isAgg38 rfl rfl rfl (by omega) (getU m k (by omega))) rfl ?_
      refine Tr.val (V.assign rfl) rfl ?_
      refine Tr.val (V.assign rfl) rfl ?_
      refine Tr.lNil ?_
      refine Tr.thenN ?_
      refine Tr.seq ?_
      refine Tr.region ?_
      refine Tr.val (V.move rfl) rfl ?_
      refine Tr.val (V.move rfl) rfl ?_
      refine Tr.val (V.addN rfl rfl (by omega)) rfl ?_
      refine Tr.val (V.geq rfl rfl rfl) rfl ?_
      refine Tr.lNil ?_
      refine Tr.thenN ?_
      refine Tr.cond rfl (fun hT2 => ?_) (fun hF2 => ?_)
      · simp only [decide_eq_true_eq] at hT2
        refine Tr.region ?_
        refine Tr.val (V.move rfl) rfl ?_
        refine Tr.val (V.move rfl) rfl ?_
        refine Tr.val (V.addN rfl rfl (by omega)) rfl ?_
        refine Tr.val (V.subN (b := 5) rfl rfl (by omega) (by omega)) rfl ?_
        refine Tr.val (V.move rfl) rfl ?_
        refine Tr.val (V.move rfl) rfl ?_
        refine Tr.val (V.addN rfl rfl (by omega)) rfl ?_
        refine Tr.val (V.subN (b := 5) rfl rfl (by omega) (by omega)) rfl ?_
        refine Tr.val (V.idxA (j := i + k - 5) (o' := 2 * (i + k - 5)) Try.runUnderlying72 Try.sizeOf71 rfl rfl (by omega) (by omega) (by omega)) rfl ?_
        refine Tr.val (V.loadD Try.isAgg71 Try.sizeOf71 rfl (by repeat (first | exact List.Mem.head _ | apply List.Mem.tail)) (by rw [accM_len]; omega)) rfl ?_
        refine Tr.val (V.move rfl) rfl ?_
        refine Tr.val (V.mul64 (Y := 19#64) rfl rfl) rfl ?_
        refine Tr.val (V.move rfl) rfl ?_
        refine Tr.op (W.call1 (args3 rfl rfl rfl) Try.call36 rfl (fun w1 _ => and_any _ _ _ w1) ?_)
        refine Tr.val (V.idxA (j := i + k - 5) (o' := 2 * (i + k - 5)) Try.runUnderlying72 Try.sizeOf71 rfl rfl (by omega) (by omega) (by omega)) rfl ?_
        refine Tr.op (W.storeD (D := (accM l m (5 * i + k))) (v := (accM l m (5 * i + k)).getD (i + k - 5) 0#128 + prodD (l.getD i 0#64 * 19#64) (m.getD k 0#64)) Try.sizeOf71 rfl rfl (by rw [accM_len]; omega) (by rw [← accM_high l m i k hlk (by omega)]; repeat (first | exact Upd.head | apply Upd.tail)) ?_)
        refine Tr.lNil ?_
        refine Tr.inN ?_
        refine Tr.thenN ?_
        refine Tr.region ?_
        refine Tr.val (V.add rfl rfl (by omega)) rfl ?_
        refine Tr.val (V.move rfl) rfl ?_
        refine Tr.lNil ?_
        exact Tr.again (k + 1) (by omega) (by omega) (lk_cons rfl (lk_cons rfl (lk_cons rfl (lk_cons rfl (lk_cons rfl (lk_cons rfl (lk_cons rfl (lk_cons rfl (lk_cons rfl (lk_cons rfl (lk_nil _))))))))))) (List.Sublist.refl _)
      · simp only [decide_eq_false_iff_not] at hF2
        refine Tr.region ?_
        refine Tr.val (V.move rfl) rfl ?_
        refine Tr.val (V.move rfl) rfl ?_
        refine Tr.val (V.addN rfl rfl (by omega)) rfl ?_
        refine Tr.val (V.move rfl) rfl ?_
        refine Tr.val (V.move rfl) rfl ?_
        refine Tr.val (V.addN rfl rfl (by omega)) rfl ?_
        refine Tr.val (V.idxA (j := i + k) (o' := 2 * (i + k)) Try.runUnderlying72 Try.sizeOf71 rfl rfl (by omega) (by omega) (by omega)) rfl ?_
        refine Tr.val (V.loadD Try.isAgg71 Try.sizeOf71 rfl (by repeat (first | exact List.Mem.head _ | apply List.Mem.tail)) (by rw [accM_len]; omega)) rfl ?_
        refine Tr.val (V.move rfl) rfl ?_
        refine Tr.val (V.move rfl) rfl ?_
        refine Tr.op (W.call1 (args3 rfl rfl rfl) Try.call36 rfl (fun w1 _ => and_any _ _ _ w1) ?_)
        refine Tr.val (V.idxA (j := i + k) (o' := 2 * (i + k)) Try.runUnderlying72 Try.sizeOf71 rfl rfl (by omega) (by omega) (by omega)) rfl ?_
        refine Tr.op (W.storeD (D := (accM l m (5 * i + k))) (v := (accM l m (5 * i + k)).getD (i + k) 0#128 + prodD (l.getD i 0#64) (m.getD k 0#64)) Try.sizeOf71 rfl rfl (by rw [accM_len]; omega) (by rw [← accM_low l m i k hlk (by omega)]; repeat (first | exact Upd.head | apply Upd.tail)) ?_)
        refine Tr.lNil ?_
        refine Tr.inN ?_
        refine Tr.thenN ?_
        refine Tr.region ?_
        refine Tr.val (V.add rfl rfl (by omega)) rfl ?_
        refine Tr.val (V.move rfl) rfl ?_
        refine Tr.lNil ?_
        exact Tr.again (k + 1) (by omega) (by omega) (lk_cons rfl (lk_cons rfl (lk_cons rfl (lk_cons rfl (lk_cons rfl (lk_cons rfl (lk_cons rfl (lk_cons rfl (lk_cons rfl (lk_cons rfl (lk_nil _))))))))))) (List.Sublist.refl _)
    · simp only [decide_eq_false_iff_not] at hF1
      obtain rfl : k = 5 := by omega
      refine Tr.exit ?_
      refine Tr.thenX ?_
      refine Tr.thenX ?_
      refine Tr.inHit ?_
      refine Tr.inN ?_
      refine Tr.thenN ?_
      refine Tr.region ?_
      refine Tr.val (V.add rfl rfl (by omega)) rfl ?_
      refine Tr.val (V.move rfl) rfl ?_
      refine Tr.lNil ?_
      exact Tr.again (i + 1) (by omega) (by omega) (lk_cons rfl (lk_cons rfl (lk_cons rfl (lk_cons rfl (lk_cons rfl (lk_cons rfl (lk_nil _))))))) (List.Sublist.refl _)
  · simp only [decide_eq_false_iff_not] at hF0
    obtain rfl : i = 5 := by omega
    rw [show 5 * 5 = 25 from rfl, ← hD]
    refine Tr.exit ?_
    refine Tr.thenX ?_
    refine Tr.thenX ?_
    refine Tr.inHit ?_
    refine Tr.thenN ?_
    refine Tr.seq ?_
    refine Tr.region ?_
    refine Tr.op (W.alloc (cs := [0#64, 0#64, 0#64, 0#64, 0#64].map U64) Try.zeroValue39 rfl rfl fun g10 => ?_)
    refine Tr.lNil ?_
    refine Tr.thenN ?_
    refine Tr.seq ?_
    refine Tr.region ?_
    refine Tr.val (V.assign (v := U64 0#64) rfl) rfl ?_
    refine Tr.lNil ?_
    refine Tr.thenN ?_
    refine Tr.seq ?_
    refine Tr.seq ?_
    refine Tr.region ?_
    refine Tr.val (V.move rfl) rfl ?_
    refine Tr.lNil ?_
    refine Tr.thenN ?_
    refine Tr.block ?_
    refine Tr.loop (ι := Nat) (fun j => j ≤ 5) (fun j => [(4, .pointer (some ⟨g4, 0, none⟩)), (5, .pointer (some ⟨g5, 0, none⟩)), (10, .pointer (some ⟨g10, 0, none⟩)), (11, U64 (outM D j).2.2), (59, NV j)]) (fun j => [⟨g10, 39, (outM D j).2.1.map U64⟩, ⟨g5, 72, dblC (outM D j).1⟩, ⟨g4, 41, [0#64, 0#64, 0#64, 0#64, 0#64].map U64⟩]) (fun j => 5 - j) 0 (Nat.zero_le _) (lk_cons rfl (lk_cons rfl (lk_cons rfl (lk_cons rfl (lk_cons rfl (lk_nil _)))))) (.cons_cons _ (.cons_cons _ (.cons_cons _ (List.nil_sublist _)))) fun j hI => ?_
    refine Tr.seq ?_
    refine Tr.region ?_
    refine Tr.val (V.lss rfl rfl rfl) rfl ?_
    refine Tr.lNil ?_
    refine Tr.thenN ?_
    refine Tr.seq ?_
    refine Tr.cond rfl (fun hT3 => ?_) (fun hF3 => ?_)
    · simp only [decide_eq_true_eq] at hT3
      have hlj : j < 5 := by omega
      have hgetj : ((outM D j).1.set j ((outM D j).1.getD j 0#128 + prodD (outM D j).2.2 1#64)).getD j 0#128 = ((outM D j).1.getD j 0#128 + prodD (outM D j).2.2 1#64) := by rw [List.getD_eq_getElem?_getD, List.getElem?_set_self (by rw [(hol j).1]; omega)]; rfl
      have hlo : (dblC ((outM D j).1.set j ((outM D j).1.getD j 0#128 + prodD (outM D j).2.2 1#64)))[2 * j + 1]? = some (U64 (loD ((outM D j).1.getD j 0#128 + prodD (outM D j).2.2 1#64))) := by rw [dblC_lo _ j (by rw [List.length_set, (hol j).1]; omega), hgetj]
      refine Tr.skip ?_
      refine Tr.thenN ?_
      refine Tr.seq ?_
      refine Tr.block ?_
      refine Tr.seq ?_
      refine Tr.region ?_
      refine Tr.val (V.move rfl) rfl ?_
      refine Tr.val (V.assign rfl) rfl ?_
      refine Tr.lNil ?_
      refine Tr.thenN ?_
      refine Tr.seq ?_
      refine Tr.region ?_
      refine Tr.val (V.move rfl) rfl ?_
      refine Tr.val (V.move rfl) rfl ?_
      refine Tr.val (V.idxA (j := j) (o' := 2 * (j)) Try.runUnderlying72 Try.sizeOf71 rfl rfl (by omega) (by omega) (by omega)) rfl ?_
      refine Tr.val (V.loadD Try.isAgg71 Try.sizeOf71 rfl (by repeat (first | exact List.Mem.head _ | apply List.Mem.tail)) (by rw [(hol j).1]; omega)) rfl ?_
      refine Tr.val (V.move rfl) rfl ?_
      refine Tr.op (W.call1 (args2 rfl rfl) Try.call37 rfl (fun w1 _ => more_any _ _ w1) ?_)
      refine Tr.val (V.idxA (j := j) (o' := 2 * (j)) Try.runUnderlying72 Try.sizeOf71 rfl rfl (by omega) (by omega) (by omega)) rfl ?_
      refine Tr.op (W.storeD (D := (outM D j).1) (v := ((outM D j).1.getD j 0#128 + prodD (outM D j).2.2 1#64)) Try.sizeOf71 rfl rfl (by rw [(hol j).1]; omega) (by repeat (first | exact Upd.head | apply Upd.tail)) ?_)
      refine Tr.lNil ?_
      refine Tr.thenN ?_
      refine Tr.regionD [0, 0, 2, 6, 14, 30, 0, 64, 192, 448, 63, 2047, 4095] [11] (.pure 0 (.pure 1 (.pure 2 (.pure 3 (.soft 4 (.pure 5 (.pure 6 (.pure 7 (.soft 8 (.soft 9 (.pure 10 (.hard 11 (.pure 12 .done))))))))))))) mixed (by kernel_rfl) ?_
      refine TrP.pure rfl (fun _ => V.move rfl) rfl ?_
      refine TrP.pure rfl (fun _ => V.move rfl) rfl ?_
      refine TrP.pure rfl (fun _ => V.idxA (j := j) (o' := 2 * (j)) Try.runUnderlying72 Try.sizeOf71 rfl rfl (by omega) (by omega) (by omega)) rfl ?_
      refine TrP.pure rfl (fun _ => V.fieldS (o' := 2 * j + 1) Try.runUnderlying71 rfl rfl Try.sizeOf38 (by omega) rfl) rfl ?_
      refine TrP.soft rfl (V.load1 Try.isAgg38 rfl (V.cellB (by repeat (first | exact List.Mem.head _ | apply List.Mem.tail)) hlo)) rfl ?_
      refine TrP.pure rfl (fun _ => V.and64 (Y := 2251799813685247#64) rfl rfl) rfl ?_
      refine TrP.pure rfl (fun _ => V.move rfl) rfl ?_
      refine TrP.pure rfl (fun _ => V.idxA (j := j) (o' := 2 * (j)) Try.runUnderlying72 Try.sizeOf71 rfl rfl (by omega) (by omega) (by omega)) rfl ?_
      refine TrP.soft rfl (V.loadD Try.isAgg71 Try.sizeOf71 rfl (by repeat (first | exact List.Mem.head _ | apply List.Mem.tail)) (by rw [List.length_set, (hol j).1]; omega)) rfl ?_
      refine TrP.call rfl (args1 rfl) Try.call38 rfl (fun w1 _ => by have h := above_any ((((outM D j)).1.set j ((outM D j).1.getD j 0#128 + prodD (outM D j).2.2 1#64)).getD j 0#128) w1; rw [hgetj] at h ⊢; exact h) ?_
      refine TrP.pure rfl (fun _ => V.idxA (j := j) (o' := j) Try.runUnderlying39 Try.sizeOf38 rfl rfl (by omega) (by omega) (by omega)) rfl ?_
      refine TrP.hard rfl (W.store1E (cs := (outM D j).2.1.map U64) (v := U64 (loD ((outM D j).1.getD j 0#128 + prodD (outM D j).2.2 1#64) &&& 2251799813685247#64)) (cs' := (outM D (j + 1)).2.1.map U64) Try.sizeOf38 rfl rfl rfl rfl (by rw [outM, List.map_set]) (by repeat (first | exact Upd.head | apply Upd.tail)) (by rw [List.length_map, (hol j).2]; omega) ?_)
      refine Tr.pTail rfl ?_
      refine TrP.pure rfl (fun _ => V.assign rfl) rfl ?_
      refine TrP.done ?_
      refine Tr.inN ?_
      refine Tr.thenN ?_
      refine Tr.region ?_
      refine Tr.val (V.add rfl rfl (by omega)) rfl ?_
      refine Tr.val (V.move rfl) rfl ?_
      refine Tr.lNil ?_
      exact Tr.again (j + 1) (by omega) (by omega) (lk_cons rfl (lk_cons rfl (lk_cons rfl (lk_cons rfl (lk_cons rfl (lk_nil _)))))) (List.Sublist.refl _)
    · simp only [decide_eq_false_iff_not] at hF3
      obtain rfl : j = 5 := by omega
      rw [← hs]
      refine Tr.exit ?_
      refine Tr.thenX ?_
      refine Tr.thenX ?_
      refine Tr.inHit ?_
      refine Tr.thenN ?_
      refine Tr.seq ?_
      refine Tr.region ?_
      refine Tr.val (V.idxA (j := 0) (o' := 0) Try.runUnderlying39 Try.sizeOf38 rfl rfl rfl (by omega) rfl) rfl ?_
      refine Tr.val (V.load1 Try.isAgg38 rfl (V.cellB (by repeat (first | exact List.Mem.head _ | apply List.Mem.tail)) (show (s.1.map U64)[0]? = some (U64 x0) by rw [hx0]; exact getU s.1 0 (by omega)))) rfl ?_
      refine Tr.val ((V.buildS (vs := [(0, U64 0#64), (1, U64 x0)]) (pl := #[(0, 1), (1, 1)]) (cs := (dblV (x0.setWidth 128)).toArray) Try.runUnderlying71 Try.zeroValue71 (fun w => by simp [Try.sizeOf38]) (fun a he => by have h := he.eval (x := .tmp 82) (v := U64 x0) rfl; simpa [Act.eval] using h) (by rw [dbl_small]; rfl))) rfl ?_
      refine Tr.val (V.move rfl) rfl ?_
      refine Tr.op (W.call1 (vs := [_, _, U64 19#64]) (args3 rfl rfl rfl) Try.call36 rfl (fun w1 _ => by have h := and_any (x0.setWidth 128) s.2 19#64 w1; rw [← hf] at h; exact h) ?_)
      refine Tr.op (W.alloc (cs := [U64 0#64, U64 0#64]) Try.zeroValue71 rfl rfl fun g13 => ?_)
      refine Tr.op (W.storeAll (vs := (dblV f)) (cs := [U64 0#64, U64 0#64]) Try.sizeOf71 rfl rfl rfl rfl (one_dbl _) (by repeat (first | exact Upd.head | apply Upd.tail)) ?_)
      refine Tr.lNil ?_
      refine Tr.thenN ?_
      refine Tr.seq ?_
      refine Tr.region ?_
      refine Tr.val (V.fieldS (o' := 1) Try.runUnderlying71 rfl rfl Try.sizeOf38 (by omega) rfl) rfl ?_
      refine Tr.val (V.load1 Try.isAgg38 rfl (V.cellB (by repeat (first | exact List.Mem.head _ | apply List.Mem.tail)) (show (dblV f)[1]? = some (U64 (loD f)) from rfl))) rfl ?_
      refine Tr.val (V.and64 (Y := 2251799813685247#64) rfl rfl) rfl ?_
      refine Tr.val (V.idxA (j := 0) (o' := 0) Try.runUnderlying39 Try.sizeOf38 rfl rfl rfl (by omega) rfl) rfl ?_
      refine Tr.op (W.store1E (cs := s.1.map U64) (v := U64 (loD f &&& 2251799813685247#64)) (cs' := s1.map U64) Try.sizeOf38 rfl rfl rfl rfl (by rw [hs1, List.map_set]) (by repeat (first | exact Upd.head | apply Upd.tail)) (by rw [List.length_map]; omega) ?_)
      refine Tr.lNil ?_
      refine Tr.thenN ?_
      refine Tr.seq ?_
      refine Tr.regionD [0, 1, 0, 4, 15, 31, 63] [6] (.pure 0 (.soft 1 (.soft 2 (.soft 3 (.pure 4 (.pure 5 (.hard 6 .done))))))) mixed (by kernel_rfl) ?_
      refine TrP.pure rfl (fun _ => V.idxA (j := 1) (o' := 1) Try.runUnderlying39 Try.sizeOf38 rfl rfl rfl (by omega) rfl) rfl ?_
      refine TrP.soft rfl (V.load1 Try.isAgg38 rfl (V.cellB (by repeat (first | exact List.Mem.head _ | apply List.Mem.tail)) (getU s1 1 (by omega)))) rfl ?_
      refine TrP.soft rfl (V.loadN (cs := dblV f) Try.isAgg71 Try.sizeOf71 rfl (V.cellsB (by repeat (first | exact List.Mem.head _ | apply List.Mem.tail)))) rfl ?_
      refine TrP.call rfl (args1 rfl) Try.call38 rfl (fun w1 _ => above_any _ w1) ?_
      refine TrP.pure rfl (fun _ => V.add64 rfl rfl) rfl ?_
      refine TrP.pure rfl (fun _ => V.idxA (j := 1) (o' := 1) Try.runUnderlying39 Try.sizeOf38 rfl rfl rfl (by omega) rfl) rfl ?_
      refine TrP.hard rfl (W.store1E (cs := s1.map U64) (v := U64 (s1.getD 1 0#64 + topD f)) (cs' := s2.map U64) Try.sizeOf38 rfl rfl rfl rfl (by rw [hs2, List.map_set]) (by repeat (first | exact Upd.head | apply Upd.tail)) (by rw [List.length_map]; omega) ?_)
      refine Tr.pTail rfl ?_
      refine TrP.done ?_
      refine Tr.thenN ?_
      refine Tr.seq ?_
      refine Tr.region ?_
      refine Tr.val (V.loadN (cs := s2.map U64) Try.isAgg39 (by rw [List.length_map, hs2l]; exact Try.sizeOf39) rfl (V.cellsB (by repeat (first | exact List.Mem.head _ | apply List.Mem.tail)))) rfl ?_
      refine Tr.op (W.call1 (args1 rfl) Try.call39 rfl (fun w1 _ => carried_any s2 w1 hs2l) ?_)
      refine Tr.op (W.storeAll (vs := (carriedL s2).map U64) (cs := [0#64, 0#64, 0#64, 0#64, 0#64].map U64) Try.sizeOf41 rfl rfl (by rw [List.length_map, hmll]) rfl (one64 _) (by repeat (first | exact Upd.head | apply Upd.tail)) ?_)
      refine Tr.lNil ?_
      refine Tr.thenN ?_
      refine Tr.ret ?_
      refine Tr.out1 rfl (Res.cellN (cs := (carriedL s2).map U64) rfl Try.isAgg41 (by rw [List.length_map, hmll]; exact Try.sizeOf41) (by repeat (first | exact List.Mem.head _ | apply List.Mem.tail))) fun w hw => ?_
      exact ⟨rfl, hw.sub (List.nil_sublist _)⟩

theorem etimes_any (l : List (BitVec 64)) (n : Nat) (w : World) (hl : l.length = 5) (hn : n ≤ 1000) : Calls Try.prog 40 [.agg (l.map U64).toArray, NV n].toArray w fun r w' => r = .returned (.agg ((timesL l n).map U64).toArray) ∧ Hp w [] [] w' := by
  have htl : ∀ k, (timesL l k).length = 5 := fun k => timesL_len l k hl
  refine Tr.enter Try.func40 rfl Try.ntmps40 rfl (Hp.refl w) ?_
  refine Tr.seq ?_
  refine Tr.region ?_
  refine Tr.op (W.box (cs := l.map U64) rfl rfl rfl fun g2 => ?_)
  refine Tr.op (W.alloc (cs := [0#64, 0#64, 0#64, 0#64, 0#64].map U64) Try.zeroValue41 rfl rfl fun g4 => ?_)
  refine Tr.lNil ?_
  refine Tr.thenN ?_
  refine Tr.seq ?_
  refine Tr.seq ?_
  refine Tr.region ?_
  refine Tr.val (V.move rfl) rfl ?_
  refine Tr.val (V.move rfl) rfl ?_
  refine Tr.lNil ?_
  refine Tr.thenN ?_
  refine Tr.block ?_
  refine Tr.loop (ι := Nat) (fun k => k ≤ n) (fun k => [(2, .pointer (some ⟨g2, 0, none⟩)), (4, .pointer (some ⟨g4, 0, none⟩)), (5, NV n), (6, NV k)]) (fun k => [⟨g4, 41, [0#64, 0#64, 0#64, 0#64, 0#64].map U64⟩, ⟨g2, 41, (timesL l k).map U64⟩]) (fun k => n - k) 0 (Nat.zero_le _) (lk_cons rfl (lk_cons rfl (lk_cons rfl (lk_cons rfl (lk_nil _))))) (List.Sublist.refl _) fun k hI => ?_
  refine Tr.seq ?_
  refine Tr.region ?_
  refine Tr.val (V.lss rfl rfl rfl) rfl ?_
  refine Tr.lNil ?_
  refine Tr.thenN ?_
  refine Tr.seq ?_
  refine Tr.cond rfl (fun hT0 => ?_) (fun hF0 => ?_)
  · simp only [decide_eq_true_eq] at hT0
    have hlt : k < n := by omega
    refine Tr.skip ?_
    refine Tr.thenN ?_
    refine Tr.seq ?_
    refine Tr.block ?_
    refine Tr.region ?_
    refine Tr.val (V.loadN (cs := (timesL l k).map U64) Try.isAgg41 (by rw [List.length_map, htl]; exact Try.sizeOf41) rfl (V.cellsB (by repeat (first | exact List.Mem.head _ | apply List.Mem.tail)))) rfl ?_
    refine Tr.val (V.loadN (cs := (timesL l k).map U64) Try.isAgg41 (by rw [List.length_map, htl]; exact Try.sizeOf41) rfl (V.cellsB (by repeat (first | exact List.Mem.head _ | apply List.Mem.tail)))) rfl ?_
    refine Tr.op (W.call1 (args2 rfl rfl) Try.call23 rfl (fun w1 _ => emul_any (timesL l k) (timesL l k) w1 (htl k) (htl k)) ?_)
    refine Tr.op (W.storeAll (vs := (timesL l (k + 1)).map U64) (cs := (timesL l k).map U64) Try.sizeOf41 rfl rfl (by rw [List.length_map, htl]) (by rw [List.length_map, htl]) (one64 _) (by repeat (first | exact Upd.head | apply Upd.tail)) ?_)
    refine Tr.lNil ?_
    refine Tr.inN ?_
    refine Tr.thenN ?_
    refine Tr.region ?_
    refine Tr.val (V.add rfl rfl (by omega)) rfl ?_
    refine Tr.val (V.move rfl) rfl ?_
    refine Tr.lNil ?_
    exact Tr.again (k + 1) (by omega) (by omega) (lk_cons rfl (lk_cons rfl (lk_cons rfl (lk_cons rfl (lk_nil _))))) (List.Sublist.refl _)
  · simp only [decide_eq_false_iff_not] at hF0
    obtain rfl : n = k := by omega
    refine Tr.exit ?_
    refine Tr.thenX ?_
    refine Tr.thenX ?_
    refine Tr.inHit ?_
    refine Tr.thenN ?_
    refine Tr.seq ?_
    refine Tr.region ?_
    refine Tr.val (V.loadN (cs := (timesL l n).map U64) Try.isAgg41 (by rw [List.length_map, htl]; exact Try.sizeOf41) rfl (V.cellsB (by repeat (first | exact List.Mem.head _ | apply List.Mem.tail)))) rfl ?_
    refine Tr.op (W.storeAll (vs := (timesL l n).map U64) (cs := [0#64, 0#64, 0#64, 0#64, 0#64].map U64) Try.sizeOf41 rfl rfl (by rw [List.length_map, htl]) rfl (one64 _) (by repeat (first | exact Upd.head | apply Upd.tail)) ?_)
    refine Tr.lNil ?_
    refine Tr.thenN ?_
    refine Tr.ret ?_
    refine Tr.out1 rfl (Res.cellN (cs := (timesL l n).map U64) rfl Try.isAgg41 (by rw [List.length_map, htl]; exact Try.sizeOf41) (by repeat (first | exact List.Mem.head _ | apply List.Mem.tail))) fun w hw => ?_
    exact ⟨rfl, hw.sub (List.nil_sublist _)⟩

end Go.Proofs.Ytgkndcincgpmdaa
