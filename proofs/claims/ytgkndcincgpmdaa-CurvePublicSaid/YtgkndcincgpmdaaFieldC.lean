/-
  Contracts of package field: Swap, Small, least, Inv. (Printed by a program of this session over its walk printer.)
-/
import Derived.Test.YtgkndcincgpmdaaFieldB
import Derived.Test.YtgkndcincgpmdaaPlainElem
namespace Go.Proofs.Ytgkndcincgpmdaa
open Go.Sym Plain
set_option linter.unusedVariables false
set_option maxRecDepth 20000

theorem swapT_any (l m : List (BitVec 64)) (w : World) (hl : l.length = 5) (hm : m.length = 5) : Calls Try.prog 33 [.bool true, .agg (l.map U64).toArray, .agg (m.map U64).toArray].toArray w fun r w' => r = .returned (.tuple #[.agg (m.map U64).toArray, .agg (l.map U64).toArray]) ∧ Hp w [] [] w' := by
  have hml : m.length = l.length := by omega
  refine Tr.enter Try.func33 rfl Try.ntmps33 rfl (Hp.refl w) ?_
  refine Tr.seq ?_
  refine Tr.region ?_
  refine Tr.op (W.box (cs := l.map U64) rfl rfl rfl fun g4 => ?_)
  refine Tr.op (W.box (cs := m.map U64) rfl rfl rfl fun g5 => ?_)
  refine Tr.op (W.alloc (cs := [0#64, 0#64, 0#64, 0#64, 0#64].map U64) Try.zeroValue41 rfl rfl fun g6 => ?_)
  refine Tr.op (W.alloc (cs := [0#64, 0#64, 0#64, 0#64, 0#64].map U64) Try.zeroValue41 rfl rfl fun g7 => ?_)
  refine Tr.lNil ?_
  refine Tr.thenN ?_
  refine Tr.seq ?_
  refine Tr.region ?_
  refine Tr.val (V.assign (v := U64 0#64) rfl) rfl ?_
  refine Tr.lNil ?_
  refine Tr.thenN ?_
  refine Tr.seq ?_
  refine Tr.seq ?_
  refine Tr.region ?_
  refine Tr.val (V.move rfl) rfl ?_
  refine Tr.lNil ?_
  refine Tr.thenN ?_
  refine Tr.condT rfl ?_
  refine Tr.region ?_
  refine Tr.val (V.move rfl) rfl ?_
  refine Tr.val (V.com64 rfl) rfl ?_
  refine Tr.val (V.assign rfl) rfl ?_
  refine Tr.lNil ?_
  refine Tr.thenN ?_
  refine Tr.seq ?_
  refine Tr.seq ?_
  refine Tr.region ?_
  refine Tr.val (V.move rfl) rfl ?_
  refine Tr.lNil ?_
  refine Tr.thenN ?_
  refine Tr.block ?_
  refine Tr.loop (ι := Nat) (fun i => i ≤ 5) (fun i => [(4, .pointer (some ⟨g4, 0, none⟩)), (5, .pointer (some ⟨g5, 0, none⟩)), (6, .pointer (some ⟨g6, 0, none⟩)), (7, .pointer (some ⟨g7, 0, none⟩)), (8, U64 18446744073709551615#64), (14, NV i)]) (fun i => [⟨g7, 41, [0#64, 0#64, 0#64, 0#64, 0#64].map U64⟩, ⟨g6, 41, [0#64, 0#64, 0#64, 0#64, 0#64].map U64⟩, ⟨g5, 41, (mixL m l i).map U64⟩, ⟨g4, 41, (mixL l m i).map U64⟩]) (fun i => 5 - i) 0 (Nat.zero_le _) (lk_cons rfl (lk_cons rfl (lk_cons rfl (lk_cons rfl (lk_cons rfl (lk_cons rfl (lk_nil _))))))) (List.Sublist.refl _) fun i hI => ?_
  refine Tr.seq ?_
  refine Tr.region ?_
  refine Tr.val (V.lss rfl rfl rfl) rfl ?_
  refine Tr.lNil ?_
  refine Tr.thenN ?_
  refine Tr.seq ?_
  refine Tr.cond rfl (fun hT1 => ?_) (fun hF1 => ?_)
  · simp only [decide_eq_true_eq] at hT1
    have hlt : i < 5 := by omega
    refine Tr.skip ?_
    refine Tr.thenN ?_
    refine Tr.seq ?_
    refine Tr.block ?_
    refine Tr.seq ?_
    refine Tr.region ?_
    refine Tr.val (V.move rfl) rfl ?_
    refine Tr.val (V.assign rfl) rfl ?_
    refine Tr.lNil ?_
    refine Tr.thenN ?_
    refine Tr.seq ?_
    refine Tr.regionD [0, 0, 3, 7, 0, 0, 48, 112, 255, 0, 1023, 2047] [] (.pure 0 (.pure 1 (.pure 2 (.soft 3 (.pure 4 (.pure 5 (.pure 6 (.soft 7 (.pure 8 (.pure 9 (.pure 10 (.pure 11 .done)))))))))))) mixed (by kernel_rfl) ?_
    refine TrP.pure rfl (fun _ => V.move rfl) rfl ?_
    refine TrP.pure rfl (fun _ => V.fieldS (o' := 0) Try.runUnderlying41 rfl rfl Try.sizeOf39 (by omega) rfl) rfl ?_
    refine TrP.pure rfl (fun _ => V.idxA (j := i) (o' := i) Try.runUnderlying39 Try.sizeOf38 rfl rfl (by omega) (by omega) (by omega)) rfl ?_
    refine TrP.soft rfl (V.load1 Try.isAgg38 rfl (V.cellB (by repeat (first | exact List.Mem.head _ | apply List.Mem.tail)) (show ((mixL l m i).map U64)[i]? = some (U64 (l.getD i 0#64)) by rw [← mixL_get l m i hml (by omega)]; exact getU _ i (by rw [mixL_len l m i hml (by omega)]; omega)))) rfl ?_
    refine TrP.pure rfl (fun _ => V.move rfl) rfl ?_
    refine TrP.pure rfl (fun _ => V.fieldS (o' := 0) Try.runUnderlying41 rfl rfl Try.sizeOf39 (by omega) rfl) rfl ?_
    refine TrP.pure rfl (fun _ => V.idxA (j := i) (o' := i) Try.runUnderlying39 Try.sizeOf38 rfl rfl (by omega) (by omega) (by omega)) rfl ?_
    refine TrP.soft rfl (V.load1 Try.isAgg38 rfl (V.cellB (by repeat (first | exact List.Mem.head _ | apply List.Mem.tail)) (show ((mixL m l i).map U64)[i]? = some (U64 (m.getD i 0#64)) by rw [← mixL_get m l i hml.symm (by omega)]; exact getU _ i (by rw [mixL_len m l i hml.symm (by omega)]; omega)))) rfl ?_
    refine TrP.pure rfl (fun _ => V.xor64 rfl rfl) rfl ?_
    refine TrP.pure rfl (fun _ => V.move rfl) rfl ?_
    refine TrP.pure rfl (fun _ => V.eqU64 (show (l.getD i 0#64 ^^^ m.getD i 0#64) &&& 18446744073709551615#64 = (l.getD i 0#64 ^^^ m.getD i 0#64) from BitVec.and_allOnes) (V.and64 rfl rfl)) rfl ?_
    refine TrP.pure rfl (fun _ => V.assign rfl) rfl ?_
    refine TrP.done ?_
    refine Tr.thenN ?_
    refine Tr.seq ?_
    refine Tr.region ?_
    refine Tr.val (V.move rfl) rfl ?_
    refine Tr.val (V.fieldS (o' := 0) Try.runUnderlying41 rfl rfl Try.sizeOf39 (by omega) rfl) rfl ?_
    refine Tr.val (V.idxA (j := i) (o' := i) Try.runUnderlying39 Try.sizeOf38 rfl rfl (by omega) (by omega) (by omega)) rfl ?_
    refine Tr.val (V.load1 Try.isAgg38 rfl (V.cellB (by repeat (first | exact List.Mem.head _ | apply List.Mem.tail)) (show ((mixL l m i).map U64)[i]? = some (U64 (l.getD i 0#64)) by rw [← mixL_get l m i hml (by omega)]; exact getU _ i (by rw [mixL_len l m i hml (by omega)]; omega)))) rfl ?_
    refine Tr.val (V.move rfl) rfl ?_
    refine Tr.val (V.xor64 rfl rfl) rfl ?_
    refine Tr.val (V.fieldS (o' := 0) Try.runUnderlying41 rfl rfl Try.sizeOf39 (by omega) rfl) rfl ?_
    refine Tr.val (V.idxA (j := i) (o' := i) Try.runUnderlying39 Try.sizeOf38 rfl rfl (by omega) (by omega) (by omega)) rfl ?_
    refine Tr.op (W.store1E (cs := (mixL l m i).map U64) (v := U64 (l.getD i 0#64 ^^^ (l.getD i 0#64 ^^^ m.getD i 0#64))) (cs' := (mixL l m (i + 1)).map U64) Try.sizeOf38 rfl rfl rfl rfl (by rw [xor_same, ← mixL_set l m i hml (by omega), List.map_set]) (by repeat (first | exact Upd.head | apply Upd.tail)) (by rw [List.length_map, mixL_len l m i hml (by omega)]; omega) ?_)
    refine Tr.lNil ?_
    refine Tr.thenN ?_
    refine Tr.region ?_
    refine Tr.val (V.move rfl) rfl ?_
    refine Tr.val (V.fieldS (o' := 0) Try.runUnderlying41 rfl rfl Try.sizeOf39 (by omega) rfl) rfl ?_
    refine Tr.val (V.idxA (j := i) (o' := i) Try.runUnderlying39 Try.sizeOf38 rfl rfl (by omega) (by omega) (by omega)) rfl ?_
    refine Tr.val (V.load1 Try.isAgg38 rfl (V.cellB (by repeat (first | exact List.Mem.head _ | apply List.Mem.tail)) (show ((mixL m l i).map U64)[i]? = some (U64 (m.getD i 0#64)) by rw [← mixL_get m l i hml.symm (by omega)]; exact getU _ i (by rw [mixL_len m l i hml.symm (by omega)]; omega)))) rfl ?_
    refine Tr.val (V.move rfl) rfl ?_
    refine Tr.val (V.xor64 rfl rfl) rfl ?_
    refine Tr.val (V.fieldS (o' := 0) Try.runUnderlying41 rfl rfl Try.sizeOf39 (by omega) rfl) rfl ?_
    refine Tr.val (V.idxA (j := i) (o' := i) Try.runUnderlying39 Try.sizeOf38 rfl rfl (by omega) (by omega) (by omega)) rfl ?_
    refine Tr.op (W.store1E (cs := (mixL m l i).map U64) (v := U64 (m.getD i 0#64 ^^^ (l.getD i 0#64 ^^^ m.getD i 0#64))) (cs' := (mixL m l (i + 1)).map U64) Try.sizeOf38 rfl rfl rfl rfl (by rw [xor_other, ← mixL_set m l i hml.symm (by omega), List.map_set]) (by repeat (first | exact Upd.head | apply Upd.tail)) (by rw [List.length_map, mixL_len m l i hml.symm (by omega)]; omega) ?_)
    refine Tr.lNil ?_
    refine Tr.inN ?_
    refine Tr.thenN ?_
    refine Tr.region ?_
    refine Tr.val (V.add rfl rfl (by omega)) rfl ?_
    refine Tr.val (V.move rfl) rfl ?_
    refine Tr.lNil ?_
    exact Tr.again (i + 1) (by omega) (by omega) (lk_cons rfl (lk_cons rfl (lk_cons rfl (lk_cons rfl (lk_cons rfl (lk_cons rfl (lk_nil _))))))) (List.Sublist.refl _)
  · simp only [decide_eq_false_iff_not] at hF1
    obtain rfl : i = 5 := by omega
    rw [show mixL l m 5 = m by rw [← hl]; exact mixL_all l m hml, show mixL m l 5 = l by rw [← hm]; exact mixL_all m l hml.symm]
    refine Tr.exit ?_
    refine Tr.thenX ?_
    refine Tr.thenX ?_
    refine Tr.inHit ?_
    refine Tr.thenN ?_
    refine Tr.seq ?_
    refine Tr.regionD [0, 0, 1, 7] [2, 3] (.soft 0 (.two 1 (.hard 2 (.hard 3 .done)) 2 (.hard 1 (.hard 3 .done)))) mixed (by kernel_rfl) ?_
    refine TrP.soft rfl (V.loadN (cs := m.map U64) Try.isAgg41 (by rw [List.length_map, hm]; exact Try.sizeOf41) rfl (V.cellsB (by repeat (first | exact List.Mem.head _ | apply List.Mem.tail)))) rfl ?_
    refine TrP.two rfl rfl ?_ ?_
    · refine W.val (V.loadN (cs := l.map U64) Try.isAgg41 (by rw [List.length_map, hl]; exact Try.sizeOf41) rfl (V.cellsB (by repeat (first | exact List.Mem.head _ | apply List.Mem.tail)))) rfl ?_
      refine Tr.pOn (by first | exact List.Sublist.refl _ | exact List.sublist_cons_self _ _ | exact List.sublist_append_right _ _ | simp) ?_
      refine TrP.hard rfl (W.storeAll (vs := m.map U64) (cs := [0#64, 0#64, 0#64, 0#64, 0#64].map U64) Try.sizeOf41 rfl rfl (by rw [List.length_map, hm]) rfl (one64 _) (by repeat (first | exact Upd.head | apply Upd.tail)) ?_)
      refine Tr.pTail rfl ?_
      refine TrP.hard rfl (W.storeAll (vs := l.map U64) (cs := [0#64, 0#64, 0#64, 0#64, 0#64].map U64) Try.sizeOf41 rfl rfl (by rw [List.length_map, hl]) rfl (one64 _) (by repeat (first | exact Upd.head | apply Upd.tail)) ?_)
      refine Tr.pTail rfl ?_
      refine TrP.done ?_
      refine Tr.thenN ?_
      refine Tr.ret ?_
      refine Tr.out2 rfl (Res.cellN (cs := m.map U64) rfl Try.isAgg41 (by rw [List.length_map, hm]; exact Try.sizeOf41) (by repeat (first | exact List.Mem.head _ | apply List.Mem.tail))) (Res.cellN (cs := l.map U64) rfl Try.isAgg41 (by rw [List.length_map, hl]; exact Try.sizeOf41) (by repeat (first | exact List.Mem.head _ | apply List.Mem.tail))) fun w hw => ?_
      exact ⟨rfl, hw.sub (List.nil_sublist _)⟩
    · refine W.storeAll (vs := m.map U64) (cs := [0#64, 0#64, 0#64, 0#64, 0#64].map U64) Try.sizeOf41 rfl rfl (by rw [List.length_map, hm]) rfl (one64 _) (by repeat (first | exact Upd.head | apply Upd.tail)) ?_
      refine Tr.pTail rfl ?_
      refine TrP.hard rfl (W.val (V.loadN (cs := l.map U64) Try.isAgg41 (by rw [List.length_map, hl]; exact Try.sizeOf41) rfl (V.cellsB (by repeat (first | exact List.Mem.head _ | apply List.Mem.tail)))) rfl ?_)
      refine Tr.pOn (by first | exact List.Sublist.refl _ | exact List.sublist_cons_self _ _ | exact List.sublist_append_right _ _ | simp) ?_
      refine TrP.hard rfl (W.storeAll (vs := l.map U64) (cs := [0#64, 0#64, 0#64, 0#64, 0#64].map U64) Try.sizeOf41 rfl rfl (by rw [List.length_map, hl]) rfl (one64 _) (by repeat (first | exact Upd.head | apply Upd.tail)) ?_)
      refine Tr.pTail rfl ?_
      refine TrP.done ?_
      refine Tr.thenN ?_
      refine Tr.ret ?_
      refine Tr.out2 rfl (Res.cellN (cs := m.map U64) rfl Try.isAgg41 (by rw [List.length_map, hm]; exact Try.sizeOf41) (by repeat (first | exact List.Mem.head _ | apply List.Mem.tail))) (Res.cellN (cs := l.map U64) rfl Try.isAgg41 (by rw [List.length_map, hl]; exact Try.sizeOf41) (by repeat (first | exact List.Mem.head _ | apply List.Mem.tail))) fun w hw => ?_
      exact ⟨rfl, hw.sub (List.nil_sublist _)⟩

theorem swapF_any (l m : List (BitVec 64)) (w : World) (hl : l.length = 5) (hm : m.length = 5) : Calls Try.prog 33 [.bool false, .agg (l.map U64).toArray, .agg (m.map U64).toArray].toArray w fun r w' => r = .returned (.tuple #[.agg (l.map U64).toArray, .agg (m.map U64).toArray]) ∧ Hp w [] [] w' := by
  have hml : m.length = l.length := by omega
  refine Tr.enter Try.func33 rfl Try.ntmps33 rfl (Hp.refl w) ?_
  refine Tr.seq ?_
  refine Tr.region ?_
  refine Tr.op (W.box (cs := l.map U64) rfl rfl rfl fun g4 => ?_)
  refine Tr.op (W.box (cs := m.map U64) rfl rfl rfl fun g5 => ?_)
  refine Tr.op (W.alloc (cs := [0#64, 0#64, 0#64, 0#64, 0#64].map U64) Try.zeroValue41 rfl rfl fun g6 => ?_)
  refine Tr.op (W.alloc (cs := [0#64, 0#64, 0#64, 0#64, 0#64].map U64) Try.zeroValue41 rfl rfl fun g7 => ?_)
  refine Tr.lNil ?_
  refine Tr.thenN ?_
  refine Tr.seq ?_
  refine Tr.region ?_
  refine Tr.val (V.assign (v := U64 0#64) rfl) rfl ?_
  refine Tr.lNil ?_
  refine Tr.thenN ?_
  refine Tr.seq ?_
  refine Tr.seq ?_
  refine Tr.region ?_
  refine Tr.val (V.move rfl) rfl ?_
  refine Tr.lNil ?_
  refine Tr.thenN ?_
  refine Tr.condF rfl ?_
  refine Tr.skip ?_
  refine Tr.thenN ?_
  refine Tr.seq ?_
  refine Tr.seq ?_
  refine Tr.region ?_
  refine Tr.val (V.move rfl) rfl ?_
  refine Tr.lNil ?_
  refine Tr.thenN ?_
  refine Tr.block ?_
  refine Tr.loop (ι := Nat) (fun i => i ≤ 5) (fun i => [(4, .pointer (some ⟨g4, 0, none⟩)), (5, .pointer (some ⟨g5, 0, none⟩)), (6, .pointer (some ⟨g6, 0, none⟩)), (7, .pointer (some ⟨g7, 0, none⟩)), (8, U64 0#64), (14, NV i)]) (fun i => [⟨g7, 41, [0#64, 0#64, 0#64, 0#64, 0#64].map U64⟩, ⟨g6, 41, [0#64, 0#64, 0#64, 0#64, 0#64].map U64⟩, ⟨g5, 41, m.map U64⟩, ⟨g4, 41, l.map U64⟩]) (fun i => 5 - i) 0 (Nat.zero_le _) (lk_cons rfl (lk_cons rfl (lk_cons rfl (lk_cons rfl (lk_cons rfl (lk_cons rfl (lk_nil _))))))) (List.Sublist.refl _) fun i hI => ?_
  refine Tr.seq ?_
  refine Tr.region ?_
  refine Tr.val (V.lss rfl rfl rfl) rfl ?_
  refine Tr.lNil ?_
  refine Tr.thenN ?_
  refine Tr.seq ?_
  refine Tr.cond rfl (fun hT1 => ?_) (fun hF1 => ?_)
  · simp only [decide_eq_true_eq] at hT1
    have hlt : i < 5 := by omega
    refine Tr.skip ?_
    refine Tr.thenN ?_
    refine Tr.seq ?_
    refine Tr.block ?_
    refine Tr.seq ?_
    refine Tr.region ?_
    refine Tr.val (V.move rfl) rfl ?_
    refine Tr.val (V.assign rfl) rfl ?_
    refine Tr.lNil ?_
    refine Tr.thenN ?_
    refine Tr.seq ?_
    refine Tr.regionD [0, 0, 3, 7, 0, 0, 48, 112, 255, 0, 1023, 2047] [] (.pure 0 (.pure 1 (.pure 2 (.soft 3 (.pure 4 (.pure 5 (.pure 6 (.soft 7 (.pure 8 (.pure 9 (.pure 10 (.pure 11 .done)))))))))))) mixed (by kernel_rfl) ?_
    refine TrP.pure rfl (fun _ => V.move rfl) rfl ?_
    refine TrP.pure rfl (fun _ => V.fieldS (o' := 0) Try.runUnderlying41 rfl rfl Try.sizeOf39 (by omega) rfl) rfl ?_
    refine TrP.pure rfl (fun _ => V.idxA (j := i) (o' := i) Try.runUnderlying39 Try.sizeOf38 rfl rfl (by omega) (by omega) (by omega)) rfl ?_
    refine TrP.soft rfl (V.load1 Try.isAgg38 rfl (V.cellB (by repeat (first | exact List.Mem.head _ | apply List.Mem.tail)) (getU l i (by omega)))) rfl ?_
    refine TrP.pure rfl (fun _ => V.move rfl) rfl ?_
    refine TrP.pure rfl (fun _ => V.fieldS (o' := 0) Try.runUnderlying41 rfl rfl Try.sizeOf39 (by omega) rfl) rfl ?_
    refine TrP.pure rfl (fun _ => V.idxA (j := i) (o' := i) Try.runUnderlying39 Try.sizeOf38 rfl rfl (by omega) (by omega) (by omega)) rfl ?_
    refine TrP.soft rfl (V.load1 Try.isAgg38 rfl (V.cellB (by repeat (first | exact List.Mem.head _ | apply List.Mem.tail)) (getU m i (by omega)))) rfl ?_
    refine TrP.pure rfl (fun _ => V.xor64 rfl rfl) rfl ?_
    refine TrP.pure rfl (fun _ => V.move rfl) rfl ?_
    refine TrP.pure rfl (fun _ => V.eqU64 (show (l.getD i 0#64 ^^^ m.getD i 0#64) &&& 0#64 = 0#64 from BitVec.and_zero) (V.and64 rfl rfl)) rfl ?_
    refine TrP.pure rfl (fun _ => V.assign rfl) rfl ?_
    refine TrP.done ?_
    refine Tr.thenN ?_
    refine Tr.seq ?_
    refine Tr.region ?_
    refine Tr.val (V.move rfl) rfl ?_
    refine Tr.val (V.fieldS (o' := 0) Try.runUnderlying41 rfl rfl Try.sizeOf39 (by omega) rfl) rfl ?_
    refine Tr.val (V.idxA (j := i) (o' := i) Try.runUnderlying39 Try.sizeOf38 rfl rfl (by omega) (by omega) (by omega)) rfl ?_
    refine Tr.val (V.load1 Try.isAgg38 rfl (V.cellB (by repeat (first | exact List.Mem.head _ | apply List.Mem.tail)) (getU l i (by omega)))) rfl ?_
    refine Tr.val (V.move rfl) rfl ?_
    refine Tr.val (V.xor64 rfl rfl) rfl ?_
    refine Tr.val (V.fieldS (o' := 0) Try.runUnderlying41 rfl rfl Try.sizeOf39 (by omega) rfl) rfl ?_
    refine Tr.val (V.idxA (j := i) (o' := i) Try.runUnderlying39 Try.sizeOf38 rfl rfl (by omega) (by omega) (by omega)) rfl ?_
    refine Tr.op (W.store1E (cs := l.map U64) (v := U64 (l.getD i 0#64 ^^^ 0#64)) (cs' := l.map U64) Try.sizeOf38 rfl rfl rfl rfl (by rw [BitVec.xor_zero]; exact set_same l i (by omega)) (by repeat (first | exact Upd.head | apply Upd.tail)) (by rw [List.length_map]; omega) ?_)
    refine Tr.lNil ?_
    refine Tr.thenN ?_
    refine Tr.region ?_
    refine Tr.val (V.move rfl) rfl ?_
    refine Tr.val (V.fieldS (o' := 0) Try.runUnderlying41 rfl rfl Try.sizeOf39 (by omega) rfl) rfl ?_
    refine Tr.val (V.idxA (j := i) (o' := i) Try.runUnderlying39 Try.sizeOf38 rfl rfl (by omega) (by omega) (by omega)) rfl ?_
    refine Tr.val (V.load1 Try.isAgg38 rfl (V.cellB (by repeat (first | exact List.Mem.head _ | apply List.Mem.tail)) (getU m i (by omega)))) rfl ?_
    refine Tr.val (V.move rfl) rfl ?_
    refine Tr.val (V.xor64 rfl rfl) rfl ?_
    refine Tr.val (V.fieldS (o' := 0) Try.runUnderlying41 rfl rfl Try.sizeOf39 (by omega) rfl) rfl ?_
    refine Tr.val (V.idxA (j := i) (o' := i) Try.runUnderlying39 Try.sizeOf38 rfl rfl (by omega) (by omega) (by omega)) rfl ?_
    refine Tr.op (W.store1E (cs := m.map U64) (v := U64 (m.getD i 0#64 ^^^ 0#64)) (cs' := m.map U64) Try.sizeOf38 rfl rfl rfl rfl (by rw [BitVec.xor_zero]; exact set_same m i (by omega)) (by repeat (first | exact Upd.head | apply Upd.tail)) (by rw [List.length_map]; omega) ?_)
    refine Tr.lNil ?_
    refine Tr.inN ?_
    refine Tr.thenN ?_
    refine Tr.region ?_
    refine Tr.val (V.add rfl rfl (by omega)) rfl ?_
    refine Tr.val (V.move rfl) rfl ?_
    refine Tr.lNil ?_
    exact Tr.again (i + 1) (by omega) (by omega) (lk_cons rfl (lk_cons rfl (lk_cons rfl (lk_cons rfl (lk_cons rfl (lk_cons rfl (lk_nil _))))))) (List.Sublist.refl _)
  · simp only [decide_eq_false_iff_not] at hF1
    obtain rfl : i = 5 := by omega
    refine Tr.exit ?_
    refine Tr.thenX ?_
    refine Tr.thenX ?_
    refine Tr.inHit ?_
    refine Tr.thenN ?_
    refine Tr.seq ?_
    refine Tr.regionD [0, 0, 1, 7] [2, 3] (.soft 0 (.two 1 (.hard 2 (.hard 3 .done)) 2 (.hard 1 (.hard 3 .done)))) mixed (by kernel_rfl) ?_
    refine TrP.soft rfl (V.loadN (cs := l.map U64) Try.isAgg41 (by rw [List.length_map, hl]; exact Try.sizeOf41) rfl (V.cellsB (by repeat (first | exact List.Mem.head _ | apply List.Mem.tail)))) rfl ?_
    refine TrP.two rfl rfl ?_ ?_
    · refine W.val (V.loadN (cs := m.map U64) Try.isAgg41 (by rw [List.length_map, hm]; exact Try.sizeOf41) rfl (V.cellsB (by repeat (first | exact List.Mem.head _ | apply List.Mem.tail)))) rfl ?_
      refine Tr.pOn (by first | exact List.Sublist.refl _ | exact List.sublist_cons_self _ _ | exact List.sublist_append_right _ _ | simp) ?_
      refine TrP.hard rfl (W.storeAll (vs := l.map U64) (cs := [0#64, 0#64, 0#64, 0#64, 0#64].map U64) Try.sizeOf41 rfl rfl (by rw [List.length_map, hl]) rfl (one64 _) (by repeat (first | exact Upd.head | apply Upd.tail)) ?_)
      refine Tr.pTail rfl ?_
      refine TrP.hard rfl (W.storeAll (vs := m.map U64) (cs := [0#64, 0#64, 0#64, 0#64, 0#64].map U64) Try.sizeOf41 rfl rfl (by rw [List.length_map, hm]) rfl (one64 _) (by repeat (first | exact Upd.head | apply Upd.tail)) ?_)
      refine Tr.pTail rfl ?_
      refine TrP.done ?_
      refine Tr.thenN ?_
      refine Tr.ret ?_
      refine Tr.out2 rfl (Res.cellN (cs := l.map U64) rfl Try.isAgg41 (by rw [List.length_map, hl]; exact Try.sizeOf41) (by repeat (first | exact List.Mem.head _ | apply List.Mem.tail))) (Res.cellN (cs := m.map U64) rfl Try.isAgg41 (by rw [List.length_map, hm]; exact Try.sizeOf41) (by repeat (first | exact List.Mem.head _ | apply List.Mem.tail))) fun w hw => ?_
      exact ⟨rfl, hw.sub (List.nil_sublist _)⟩
    · refine W.storeAll (vs := l.map U64) (cs := [0#64, 0#64, 0#64, 0#64, 0#64].map U64) Try.sizeOf41 rfl rfl (by rw [List.length_map, hl]) rfl (one64 _) (by repeat (first | exact Upd.head | apply Upd.tail)) ?_
      refine Tr.pTail rfl ?_
      refine TrP.hard rfl (W.val (V.loadN (cs := m.map U64) Try.isAgg41 (by rw [List.length_map, hm]; exact Try.sizeOf41) rfl (V.cellsB (by repeat (first | exact List.Mem.head _ | apply List.Mem.tail)))) rfl ?_)
      refine Tr.pOn (by first | exact List.Sublist.refl _ | exact List.sublist_cons_self _ _ | exact List.sublist_append_right _ _ | simp) ?_
      refine TrP.hard rfl (W.storeAll (vs := m.map U64) (cs := [0#64, 0#64, 0#64, 0#64, 0#64].map U64) Try.sizeOf41 rfl rfl (by rw [List.length_map, hm]) rfl (one64 _) (by repeat (first | exact Upd.head | apply Upd.tail)) ?_)
      refine Tr.pTail rfl ?_
      refine TrP.done ?_
      refine Tr.thenN ?_
      refine Tr.ret ?_
      refine Tr.out2 rfl (Res.cellN (cs := l.map U64) rfl Try.isAgg41 (by rw [List.length_map, hl]; exact Try.sizeOf41) (by repeat (first | exact List.Mem.head _ | apply List.Mem.tail))) (Res.cellN (cs := m.map U64) rfl Try.isAgg41 (by rw [List.length_map, hm]; exact Try.sizeOf41) (by repeat (first | exact List.Mem.head _ | apply List.Mem.tail))) fun w hw => ?_
      exact ⟨rfl, hw.sub (List.nil_sublist _)⟩

theorem eswap_any (b : Bool) (l m : List (BitVec 64)) (w : World) (hl : l.length = 5) (hm : m.length = 5) : Calls Try.prog 33 [.bool b, .agg (l.map U64).toArray, .agg (m.map U64).toArray].toArray w fun r w' => r = .returned (.tuple #[.agg ((if b then m else l).map U64).toArray, .agg ((if b then l else m).map U64).toArray]) ∧ Hp w [] [] w' := by
  cases b
  · exact swapF_any l m w hl hm
  · exact swapT_any l m w hl hm
theorem small_any (X : BitVec 32) (w : World) : Calls Try.prog 20 [U32 X].toArray w fun r w' => r = .returned (.agg ((smallL X).map U64).toArray) ∧ Hp w [] [] w' := by
  refine Tr.enter Try.func20 rfl Try.ntmps20 rfl (Hp.refl w) ?_
  refine Tr.seq ?_
  refine Tr.region ?_
  refine Tr.op (W.alloc (cs := [0#64, 0#64, 0#64, 0#64, 0#64].map U64) Try.zeroValue41 rfl rfl fun g2 => ?_)
  refine Tr.lNil ?_
  refine Tr.thenN ?_
  refine Tr.seq ?_
  refine Tr.region ?_
  refine Tr.val (V.move rfl) rfl ?_
  refine Tr.val (V.conv32_64 Try.runUnderlying45 Try.runUnderlying38 rfl) rfl ?_
  refine Tr.val ((V.buildA (vs := [(0, U64 (X.setWidth 64))]) (cs := ((smallL X).map U64).toArray) Try.runUnderlying39 Try.sizeOf38 Try.zeroValue39 (fun a he => by simp [he.eval (x := .tmp 4) (v := U64 (X.setWidth 64)) rfl]) rfl)) rfl ?_
  refine Tr.val ((V.buildS (vs := [(0, .agg ((smallL X).map U64).toArray)]) (pl := #[(0, 5)]) (cs := ((smallL X).map U64 ++ ([0#64, 0#64, 0#64, 0#64, 0#64].map U64).drop 5).toArray) Try.runUnderlying41 Try.zeroValue41 (fun w => by simp [Try.sizeOf39]) (fun a he => by simp [he.eval (x := .tmp 5) (v := .agg ((smallL X).map U64).toArray) rfl]) (fill_one rfl rfl (by decide)))) rfl ?_
  refine Tr.op (W.storeAll (vs := (smallL X).map U64) (cs := [0#64, 0#64, 0#64, 0#64, 0#64].map U64) Try.sizeOf41 rfl rfl (by rw [List.length_map, show (smallL X).length = 5 from rfl]) rfl (one64 _) (by repeat (first | exact Upd.head | apply Upd.tail)) ?_)
  refine Tr.lNil ?_
  refine Tr.thenN ?_
  refine Tr.ret ?_
  refine Tr.out1 rfl (Res.cellN (cs := (smallL X).map U64) rfl Try.isAgg41 (by rw [List.length_map, show (smallL X).length = 5 from rfl]; exact Try.sizeOf41) (by repeat (first | exact List.Mem.head _ | apply List.Mem.tail))) fun w hw => ?_
  exact ⟨rfl, hw.sub (List.nil_sublist _)⟩

theorem least_any (l : List (BitVec 64)) (w : World) (hl : l.length = 5) : Calls Try.prog 31 [.agg (l.map U64).toArray].toArray w fun r w' => r = .returned (.agg ((leastL l).map U64).toArray) ∧ Hp w [] [] w' := by
  have hLl : ∀ k, (leastTo l k).length = 5 := fun k => by rw [leastTo_len, hl]
  have hcl : (carriedL l).length = 5 := by rw [carriedL_len, hl]
  have hfl : ∀ k, (foldL (leastTo l k)).length = 5 := fun k => by rw [foldL, List.length_set, hLl]
  have hCl : ∀ k i, (carTo (foldL (leastTo l k)) 0#64 i).1.length = 5 := fun k i => by rw [carTo_len, hfl]
  refine Tr.enter Try.func31 rfl Try.ntmps31 rfl (Hp.refl w) ?_
  refine Tr.seq ?_
  refine Tr.region ?_
  refine Tr.op (W.box (cs := l.map U64) rfl rfl rfl fun g1 => ?_)
  refine Tr.op (W.alloc (cs := [0#64, 0#64, 0#64, 0#64, 0#64].map U64) Try.zeroValue39 rfl rfl fun g2 => ?_)
  refine Tr.lNil ?_
  refine Tr.thenN ?_
  refine Tr.seq ?_
  refine Tr.region ?_
  refine Tr.val (V.fieldS (o' := 0) Try.runUnderlying41 rfl rfl Try.sizeOf39 (by omega) rfl) rfl ?_
  refine Tr.val (V.loadN (cs := l.map U64) Try.isAgg39 (by rw [List.length_map, hl]; exact Try.sizeOf39) rfl (V.cellsB (by repeat (first | exact List.Mem.head _ | apply List.Mem.tail)))) rfl ?_
  refine Tr.op (W.call1 (args1 rfl) Try.call39 rfl (fun w1 _ => carried_any l w1 hl) ?_)
  refine Tr.val ((V.fieldN (pre := []) (post := []) (vs := (carriedL l).map U64) Try.runUnderlying41 rfl rfl Try.sizeOf39 Try.isAgg39 (by rw [List.nil_append, List.append_nil]) rfl (by rw [List.length_map, hcl]) : VOp Try.prog _ _ _ _ _ _ _ (.agg ((leastTo l 0).map U64).toArray))) rfl ?_
  refine Tr.op (W.alloc (cs := [0#64, 0#64, 0#64, 0#64, 0#64].map U64) Try.zeroValue39 rfl rfl fun g3 => ?_)
  refine Tr.op (W.storeAll (vs := (leastTo l 0).map U64) (cs := [0#64, 0#64, 0#64, 0#64, 0#64].map U64) Try.sizeOf39 rfl rfl (by rw [List.length_map, hLl]) rfl (one64 _) (by repeat (first | exact Upd.head | apply Upd.tail)) ?_)
  refine Tr.lNil ?_
  refine Tr.thenN ?_
  refine Tr.seq ?_
  refine Tr.seq ?_
  refine Tr.region ?_
  refine Tr.val (V.move rfl) rfl ?_
  refine Tr.lNil ?_
  refine Tr.thenN ?_
  refine Tr.block ?_
  refine Tr.loop (ι := Nat) (fun k => k ≤ 2) (fun k => [(2, .pointer (some ⟨g2, 0, none⟩)), (3, .pointer (some ⟨g3, 0, none⟩)), (11, NV k)]) (fun k => [⟨g3, 39, (leastTo l k).map U64⟩, ⟨g2, 39, [0#64, 0#64, 0#64, 0#64, 0#64].map U64⟩]) (fun k => 2 - k) 0 (Nat.zero_le _) (lk_cons rfl (lk_cons rfl (lk_cons rfl (lk_nil _)))) (.cons_cons _ (.cons_cons _ (List.nil_sublist _))) fun k hI => ?_
  refine Tr.seq ?_
  refine Tr.region ?_
  refine Tr.val (V.lss rfl rfl rfl) rfl ?_
  refine Tr.lNil ?_
  refine Tr.thenN ?_
  refine Tr.seq ?_
  refine Tr.cond rfl (fun hT0 => ?_) (fun hF0 => ?_)
  · simp only [decide_eq_true_eq] at hT0
    have hlk : k < 2 := by omega
    refine Tr.skip ?_
    refine Tr.thenN ?_
    refine Tr.seq ?_
    refine Tr.block ?_
    refine Tr.seq ?_
    refine Tr.region ?_
    refine Tr.val (V.assign (v := U64 19#64) rfl) rfl ?_
    refine Tr.lNil ?_
    refine Tr.thenN ?_
    refine Tr.seq ?_
    refine Tr.seq ?_
    refine Tr.region ?_
    refine Tr.val (V.move rfl) rfl ?_
    refine Tr.lNil ?_
    refine Tr.thenN ?_
    refine Tr.block ?_
    refine Tr.loop (ι := Nat) (fun i => i ≤ 5) (fun i => [(2, .pointer (some ⟨g2, 0, none⟩)), (3, .pointer (some ⟨g3, 0, none⟩)), (11, NV k), (4, U64 (topTo (leastTo l k) i)), (13, NV i)]) (fun i => [⟨g3, 39, (leastTo l k).map U64⟩, ⟨g2, 39, [0#64, 0#64, 0#64, 0#64, 0#64].map U64⟩]) (fun i => 5 - i) 0 (Nat.zero_le _) (lk_cons rfl (lk_cons rfl (lk_cons rfl (lk_cons rfl (lk_cons rfl (lk_nil _)))))) (List.Sublist.refl _) fun i hI => ?_
    refine Tr.seq ?_
    refine Tr.region ?_
    refine Tr.val (V.lss rfl rfl rfl) rfl ?_
    refine Tr.lNil ?_
    refine Tr.thenN ?_
    refine Tr.seq ?_
    refine Tr.cond rfl (fun hT1 => ?_) (fun hF1 => ?_)
    · simp only [decide_eq_true_eq] at hT1
      have hlt : i < 5 := by omega
      refine Tr.skip ?_
      refine Tr.thenN ?_
      refine Tr.seq ?_
      refine Tr.block ?_
      refine Tr.seq ?_
      refine Tr.region ?_
      refine Tr.val (V.move rfl) rfl ?_
      refine Tr.val (V.assign rfl) rfl ?_
      refine Tr.lNil ?_
      refine Tr.thenN ?_
      refine Tr.region ?_
      refine Tr.val (V.move rfl) rfl ?_
      refine Tr.val (V.idxA (j := i) (o' := i) Try.runUnderlying39 Try.sizeOf38 rfl rfl (by omega) (by omega) (by omega)) rfl ?_
      refine Tr.val (V.load1 Try.isAgg38 rfl (V.cellB (by repeat (first | exact List.Mem.head _ | apply List.Mem.tail)) (getU _ i (by rw [hLl]; omega)))) rfl ?_
      refine Tr.val (V.move rfl) rfl ?_
      refine Tr.val (V.add64 rfl rfl) rfl ?_
      refine Tr.val (V.shr64 (s := 51) rfl rfl) rfl ?_
      refine Tr.val (V.assign rfl) rfl ?_
      refine Tr.lNil ?_
      refine Tr.inN ?_
      refine Tr.thenN ?_
      refine Tr.region ?_
      refine Tr.val (V.add rfl rfl (by omega)) rfl ?_
      refine Tr.val (V.move rfl) rfl ?_
      refine Tr.lNil ?_
      exact Tr.again (i + 1) (by omega) (by omega) (lk_cons rfl (lk_cons rfl (lk_cons rfl (lk_cons rfl (lk_cons rfl (lk_nil _)))))) (List.Sublist.refl _)
    · simp only [decide_eq_false_iff_not] at hF1
      obtain rfl : i = 5 := by omega
      refine Tr.exit ?_
      refine Tr.thenX ?_
      refine Tr.thenX ?_
      refine Tr.inHit ?_
      refine Tr.thenN ?_
      refine Tr.seq ?_
      refine Tr.region ?_
      refine Tr.val (V.idxA (j := 0) (o' := 0) Try.runUnderlying39 Try.sizeOf38 rfl rfl rfl (by omega) rfl) rfl ?_
      refine Tr.val (V.load1 Try.isAgg38 rfl (V.cellB (by repeat (first | exact List.Mem.head _ | apply List.Mem.tail)) (getU _ 0 (by rw [hLl]; omega)))) rfl ?_
      refine Tr.val (V.move rfl) rfl ?_
      refine Tr.val (V.mul64 (X := 19#64) rfl rfl) rfl ?_
      refine Tr.val (V.add64 rfl rfl) rfl ?_
      refine Tr.val (V.idxA (j := 0) (o' := 0) Try.runUnderlying39 Try.sizeOf38 rfl rfl rfl (by omega) rfl) rfl ?_
      refine Tr.op (W.store1E (cs := (leastTo l k).map U64) (v := U64 ((leastTo l k).getD 0 0#64 + 19#64 * topTo (leastTo l k) 5)) (cs' := (foldL (leastTo l k)).map U64) Try.sizeOf38 rfl rfl rfl rfl (by rw [foldL, List.map_set]) (by repeat (first | exact Upd.head | apply Upd.tail)) (by rw [List.length_map, hLl]; omega) ?_)
      refine Tr.lNil ?_
      refine Tr.thenN ?_
      refine Tr.seq ?_
      refine Tr.region ?_
      refine Tr.val (V.assign (v := U64 0#64) rfl) rfl ?_
      refine Tr.lNil ?_
      refine Tr.thenN ?_
      refine Tr.seq ?_
      refine Tr.region ?_
      refine Tr.val (V.move rfl) rfl ?_
      refine Tr.lNil ?_
      refine Tr.thenN ?_
      refine Tr.block ?_
      refine Tr.loop (ι := Nat) (fun i => i ≤ 5) (fun i => [(2, .pointer (some ⟨g2, 0, none⟩)), (3, .pointer (some ⟨g3, 0, none⟩)), (11, NV k), (4, U64 (carTo (foldL (leastTo l k)) 0#64 i).2), (29, NV i)]) (fun i => [⟨g3, 39, (carTo (foldL (leastTo l k)) 0#64 i).1.map U64⟩, ⟨g2, 39, [0#64, 0#64, 0#64, 0#64, 0#64].map U64⟩]) (fun i => 5 - i) 0 (Nat.zero_le _) (lk_cons rfl (lk_cons rfl (lk_cons rfl (lk_cons rfl (lk_cons rfl (lk_nil _)))))) (List.Sublist.refl _) fun i hI => ?_
      refine Tr.seq ?_
      refine Tr.region ?_
      refine Tr.val (V.lss rfl rfl rfl) rfl ?_
      refine Tr.lNil ?_
      refine Tr.thenN ?_
      refine Tr.seq ?_
      refine Tr.cond rfl (fun hT2 => ?_) (fun hF2 => ?_)
      · simp only [decide_eq_true_eq] at hT2
        have hlt : i < 5 := by omega
        have hset : (((carTo (foldL (leastTo l k)) 0#64 i).1.set i ((carTo (foldL (leastTo l k)) 0#64 i).1.getD i 0#64 + (carTo (foldL (leastTo l k)) 0#64 i).2)).map U64)[i]? = some (U64 ((carTo (foldL (leastTo l k)) 0#64 i).1.getD i 0#64 + (carTo (foldL (leastTo l k)) 0#64 i).2)) := by rw [List.getElem?_map, List.getElem?_set_self (by rw [hCl]; omega)]; rfl
        refine Tr.skip ?_
        refine Tr.thenN ?_
        refine Tr.seq ?_
        refine Tr.block ?_
        refine Tr.seq ?_
        refine Tr.region ?_
        refine Tr.val (V.move rfl) rfl ?_
        refine Tr.val (V.assign rfl) rfl ?_
        refine Tr.lNil ?_
        refine Tr.thenN ?_
        refine Tr.seq ?_
        refine Tr.region ?_
        refine Tr.val (V.move rfl) rfl ?_
        refine Tr.val (V.idxA (j := i) (o' := i) Try.runUnderlying39 Try.sizeOf38 rfl rfl (by omega) (by omega) (by omega)) rfl ?_
        refine Tr.val (V.load1 Try.isAgg38 rfl (V.cellB (by repeat (first | exact List.Mem.head _ | apply List.Mem.tail)) (getU _ i (by rw [hCl]; omega)))) rfl ?_
        refine Tr.val (V.move rfl) rfl ?_
        refine Tr.val (V.add64 rfl rfl) rfl ?_
        refine Tr.val (V.idxA (j := i) (o' := i) Try.runUnderlying39 Try.sizeOf38 rfl rfl (by omega) (by omega) (by omega)) rfl ?_
        refine Tr.op (W.store1E (cs := (carTo (foldL (leastTo l k)) 0#64 i).1.map U64) (v := U64 (((carTo (foldL (leastTo l k)) 0#64 i).1.getD i 0#64 + (carTo (foldL (leastTo l k)) 0#64 i).2))) (cs' := ((carTo (foldL (leastTo l k)) 0#64 i).1.set i ((carTo (foldL (leastTo l k)) 0#64 i).1.getD i 0#64 + (carTo (foldL (leastTo l k)) 0#64 i).2)).map U64) Try.sizeOf38 rfl rfl rfl rfl (by rw [List.map_set]) (by repeat (first | exact Upd.head | apply Upd.tail)) (by rw [List.length_map, hCl]; omega) ?_)
        refine Tr.lNil ?_
        refine Tr.thenN ?_
        refine Tr.regionD [0, 0, 2, 6, 14, 0, 32, 96, 224, 255, 767, 2047] [10] (.pure 0 (.pure 1 (.pure 2 (.soft 3 (.pure 4 (.pure 5 (.pure 6 (.soft 7 (.pure 8 (.pure 9 (.hard 10 (.pure 11 .done)))))))))))) mixed (by kernel_rfl) ?_
        refine TrP.pure rfl (fun _ => V.move rfl) rfl ?_
        refine TrP.pure rfl (fun _ => V.move rfl) rfl ?_
        refine TrP.pure rfl (fun _ => V.idxA (j := i) (o' := i) Try.runUnderlying39 Try.sizeOf38 rfl rfl (by omega) (by omega) (by omega)) rfl ?_
        refine TrP.soft rfl (V.load1 Try.isAgg38 rfl (V.cellB (by repeat (first | exact List.Mem.head _ | apply List.Mem.tail)) hset)) rfl ?_
        refine TrP.pure rfl (fun _ => V.and64 (Y := 2251799813685247#64) rfl rfl) rfl ?_
        refine TrP.pure rfl (fun _ => V.move rfl) rfl ?_
        refine TrP.pure rfl (fun _ => V.idxA (j := i) (o' := i) Try.runUnderlying39 Try.sizeOf38 rfl rfl (by omega) (by omega) (by omega)) rfl ?_
        refine TrP.soft rfl (V.load1 Try.isAgg38 rfl (V.cellB (by repeat (first | exact List.Mem.head _ | apply List.Mem.tail)) hset)) rfl ?_
        refine TrP.pure rfl (fun _ => V.shr64 (s := 51) rfl rfl) rfl ?_
        refine TrP.pure rfl (fun _ => V.idxA (j := i) (o' := i) Try.runUnderlying39 Try.sizeOf38 rfl rfl (by omega) (by omega) (by omega)) rfl ?_
        refine TrP.hard rfl (W.store1E (cs := ((carTo (foldL (leastTo l k)) 0#64 i).1.set i ((carTo (foldL (leastTo l k)) 0#64 i).1.getD i 0#64 + (carTo (foldL (leastTo l k)) 0#64 i).2)).map U64) (v := U64 (((carTo (foldL (leastTo l k)) 0#64 i).1.getD i 0#64 + (carTo (foldL (leastTo l k)) 0#64 i).2) &&& 2251799813685247#64)) (cs' := (carTo (foldL (leastTo l k)) 0#64 (i + 1)).1.map U64) Try.sizeOf38 rfl rfl rfl rfl (by rw [carTo, ← List.map_set, List.set_set]) (by repeat (first | exact Upd.head | apply Upd.tail)) (by rw [List.length_map, List.length_set, hCl]; omega) ?_)
        refine Tr.pTail rfl ?_
        refine TrP.pure rfl (fun _ => V.assign rfl) rfl ?_
        refine TrP.done ?_
        refine Tr.inN ?_
        refine Tr.thenN ?_
        refine Tr.region ?_
        refine Tr.val (V.add rfl rfl (by omega)) rfl ?_
        refine Tr.val (V.move rfl) rfl ?_
        refine Tr.lNil ?_
        exact Tr.again (i + 1) (by omega) (by omega) (lk_cons rfl (lk_cons rfl (lk_cons rfl (lk_cons rfl (lk_cons rfl (lk_nil _)))))) (List.Sublist.refl _)
      · simp only [decide_eq_false_iff_not] at hF2
        obtain rfl : i = 5 := by omega
        refine Tr.exit ?_
        refine Tr.thenX ?_
        refine Tr.thenX ?_
        refine Tr.inHit ?_
        refine Tr.inN ?_
        refine Tr.thenN ?_
        refine Tr.region ?_
        refine Tr.val (V.add rfl rfl (by omega)) rfl ?_
        refine Tr.val (V.move rfl) rfl ?_
        refine Tr.lNil ?_
        exact Tr.again (k + 1) (by omega) (by omega) (lk_cons rfl (lk_cons rfl (lk_cons rfl (lk_nil _)))) (List.Sublist.refl _)
  · simp only [decide_eq_false_iff_not] at hF0
    obtain rfl : k = 2 := by omega
    refine Tr.exit ?_
    refine Tr.thenX ?_
    refine Tr.thenX ?_
    refine Tr.inHit ?_
    refine Tr.thenN ?_
    refine Tr.seq ?_
    refine Tr.region ?_
    refine Tr.val (V.loadN (cs := (leastTo l 2).map U64) Try.isAgg39 (by rw [List.length_map, hLl]; exact Try.sizeOf39) rfl (V.cellsB (by repeat (first | exact List.Mem.head _ | apply List.Mem.tail)))) rfl ?_
    refine Tr.op (W.storeAll (vs := (leastTo l 2).map U64) (cs := [0#64, 0#64, 0#64, 0#64, 0#64].map U64) Try.sizeOf39 rfl rfl (by rw [List.length_map, hLl]) rfl (one64 _) (by repeat (first | exact Upd.head | apply Upd.tail)) ?_)
    refine Tr.lNil ?_
    refine Tr.thenN ?_
    refine Tr.ret ?_
    refine Tr.out1 rfl (Res.cellN (cs := (leastTo l 2).map U64) rfl Try.isAgg39 (by rw [List.length_map, hLl]; exact Try.sizeOf39) (by repeat (first | exact List.Mem.head _ | apply List.Mem.tail))) fun w hw => ?_
    exact ⟨rfl, hw.sub (List.nil_sublist _)⟩

set_option maxHeartbeats 1000000 in
theorem einv_any (l : List (BitVec 64)) (w : World) (hl : l.length = 5) : Calls Try.prog 24 [.agg (l.map U64).toArray].toArray w fun r w' => r = .returned (.agg ((invL l).map U64).toArray) ∧ Hp w [] [] w' := by
  have hx2I : (x2I l).length = 5 := timesL_len l 1 hl
  have hx9I : (x9I l).length = 5 := mulL_len _ _
  have hx11I : (x11I l).length = 5 := mulL_len _ _
  have honesI : (onesI l).length = 5 := mulL_len _ _
  have htenI : (tenI l).length = 5 := mulL_len _ _
  have hten1I : (ten1I l).length = 5 := mulL_len _ _
  have hten2I : (ten2I l).length = 5 := mulL_len _ _
  have hfiftyI : (fiftyI l).length = 5 := mulL_len _ _
  have hallI : (allI l).length = 5 := mulL_len _ _
  have hall2I : (all2I l).length = 5 := mulL_len _ _
  have hall3I : (all3I l).length = 5 := mulL_len _ _
  have hinvL : (invL l).length = 5 := mulL_len _ _
  refine Tr.enter Try.func24 rfl Try.ntmps24 rfl (Hp.refl w) ?_
  refine Tr.seq ?_
  refine Tr.region ?_
  refine Tr.op (W.box (cs := l.map U64) rfl rfl rfl fun g1 => ?_)
  refine Tr.op (W.alloc (cs := [0#64, 0#64, 0#64, 0#64, 0#64].map U64) Try.zeroValue41 rfl rfl fun g2 => ?_)
  refine Tr.lNil ?_
  refine Tr.thenN ?_
  refine Tr.seq ?_
  refine Tr.region ?_
  refine Tr.val (V.loadN (cs := l.map U64) Try.isAgg41 (by rw [List.length_map, hl]; exact Try.sizeOf41) rfl (V.cellsB (by repeat (first | exact List.Mem.head _ | apply List.Mem.tail)))) rfl ?_
  refine Tr.op (W.call1 (args2 rfl rfl) Try.call40 rfl (fun w1 _ => etimes_any l 1 w1 hl (by omega)) ?_)
  refine Tr.op (W.alloc (cs := [0#64, 0#64, 0#64, 0#64, 0#64].map U64) Try.zeroValue41 rfl rfl fun g3 => ?_)
  refine Tr.op (W.storeAll (vs := (x2I l).map U64) (cs := [0#64, 0#64, 0#64, 0#64, 0#64].map U64) Try.sizeOf41 rfl rfl (by rw [List.length_map, hx2I]) rfl (one64 _) (by repeat (first | exact Upd.head | apply Upd.tail)) ?_)
  refine Tr.lNil ?_
  refine Tr.thenN ?_
  refine Tr.seq ?_
  refine Tr.regionD [0, 1, 0, 7, 0, 31] [5] (.soft 0 (.soft 1 (.soft 2 (.soft 3 (.hard 4 (.hard 5 .done)))))) mixed (by kernel_rfl) ?_
  refine TrP.soft rfl (V.loadN (cs := (x2I l).map U64) Try.isAgg41 (by rw [List.length_map, hx2I]; exact Try.sizeOf41) rfl (V.cellsB (by repeat (first | exact List.Mem.head _ | apply List.Mem.tail)))) rfl ?_
  refine TrP.call rfl (args2 rfl rfl) Try.call40 rfl (fun w1 _ => etimes_any (x2I l) 2 w1 hx2I (by omega)) ?_
  refine TrP.soft rfl (V.loadN (cs := l.map U64) Try.isAgg41 (by rw [List.length_map, hl]; exact Try.sizeOf41) rfl (V.cellsB (by repeat (first | exact List.Mem.head _ | apply List.Mem.tail)))) rfl ?_
  refine TrP.call rfl (args2 rfl rfl) Try.call23 rfl (fun w1 _ => emul_any (timesL (x2I l) 2) l w1 (timesL_len _ _ hx2I) hl) ?_
  refine TrP.hard rfl (W.alloc (cs := [0#64, 0#64, 0#64, 0#64, 0#64].map U64) Try.zeroValue41 rfl rfl fun g4 => ?_)
  refine Tr.pOn (by first | exact List.Sublist.refl _ | exact List.sublist_cons_self _ _ | exact List.sublist_append_right _ _ | simp) ?_
  refine TrP.hard rfl (W.storeAll (vs := (x9I l).map U64) (cs := [0#64, 0#64, 0#64, 0#64, 0#64].map U64) Try.sizeOf41 rfl rfl (by rw [List.length_map, hx9I]) rfl (one64 _) (by repeat (first | exact Upd.head | apply Upd.tail)) ?_)
  refine Tr.pTail rfl ?_
  refine TrP.done ?_
  refine Tr.thenN ?_
  refine Tr.seq ?_
  refine Tr.region ?_
  refine Tr.val (V.loadN (cs := (x9I l).map U64) Try.isAgg41 (by rw [List.length_map, hx9I]; exact Try.sizeOf41) rfl (V.cellsB (by repeat (first | exact List.Mem.head _ | apply List.Mem.tail)))) rfl ?_
  refine Tr.val (V.loadN (cs := (x2I l).map U64) Try.isAgg41 (by rw [List.length_map, hx2I]; exact Try.sizeOf41) rfl (V.cellsB (by repeat (first | exact List.Mem.head _ | apply List.Mem.tail)))) rfl ?_
  refine Tr.op (W.call1 (args2 rfl rfl) Try.call23 rfl (fun w1 _ => emul_any (x9I l) (x2I l) w1 hx9I hx2I) ?_)
  refine Tr.op (W.alloc (cs := [0#64, 0#64, 0#64, 0#64, 0#64].map U64) Try.zeroValue41 rfl rfl fun g5 => ?_)
  refine Tr.op (W.storeAll (vs := (x11I l).map U64) (cs := [0#64, 0#64, 0#64, 0#64, 0#64].map U64) Try.sizeOf41 rfl rfl (by rw [List.length_map, hx11I]) rfl (one64 _) (by repeat (first | exact Upd.head | apply Upd.tail)) ?_)
  refine Tr.lNil ?_
  refine Tr.thenN ?_
  refine Tr.seq ?_
  refine Tr.regionD [0, 1, 0, 7, 0, 31] [5] (.soft 0 (.soft 1 (.soft 2 (.soft 3 (.hard 4 (.hard 5 .done)))))) mixed (by kernel_rfl) ?_
  refine TrP.soft rfl (V.loadN (cs := (x11I l).map U64) Try.isAgg41 (by rw [List.length_map, hx11I]; exact Try.sizeOf41) rfl (V.cellsB (by repeat (first | exact List.Mem.head _ | apply List.Mem.tail)))) rfl ?_
  refine TrP.call rfl (args2 rfl rfl) Try.call40 rfl (fun w1 _ => etimes_any (x11I l) 1 w1 hx11I (by omega)) ?_
  refine TrP.soft rfl (V.loadN (cs := (x9I l).map U64) Try.isAgg41 (by rw [List.length_map, hx9I]; exact Try.sizeOf41) rfl (V.cellsB (by repeat (first | exact List.Mem.head _ | apply List.Mem.tail)))) rfl ?_
  refine TrP.call rfl (args2 rfl rfl) Try.call23 rfl (fun w1 _ => emul_any (timesL (x11I l) 1) (x9I l) w1 (timesL_len _ _ hx11I) hx9I) ?_
  refine TrP.hard rfl (W.alloc (cs := [0#64, 0#64, 0#64, 0#64, 0#64].map U64) Try.zeroValue41 rfl rfl fun g6 => ?_)
  refine Tr.pOn (by first | exact List.Sublist.refl _ | exact List.sublist_cons_self _ _ | exact List.sublist_append_right _ _ | simp) ?_
  refine TrP.hard rfl (W.storeAll (vs := (onesI l).map U64) (cs := [0#64, 0#64, 0#64, 0#64, 0#64].map U64) Try.sizeOf41 rfl rfl (by rw [List.length_map, honesI]) rfl (one64 _) (by repeat (first | exact Upd.head | apply Upd.tail)) ?_)
  refine Tr.pTail rfl ?_
  refine TrP.done ?_
  refine Tr.thenN ?_
  refine Tr.seq ?_
  refine Tr.regionD [0, 1, 0, 7, 0, 31] [5] (.soft 0 (.soft 1 (.soft 2 (.soft 3 (.hard 4 (.hard 5 .done)))))) mixed (by kernel_rfl) ?_
  refine TrP.soft rfl (V.loadN (cs := (onesI l).map U64) Try.isAgg41 (by rw [List.length_map, honesI]; exact Try.sizeOf41) rfl (V.cellsB (by repeat (first | exact List.Mem.head _ | apply List.Mem.tail)))) rfl ?_
  refine TrP.call rfl (args2 rfl rfl) Try.call40 rfl (fun w1 _ => etimes_any (onesI l) 5 w1 honesI (by omega)) ?_
  refine TrP.soft rfl (V.loadN (cs := (onesI l).map U64) Try.isAgg41 (by rw [List.length_map, honesI]; exact Try.sizeOf41) rfl (V.cellsB (by repeat (first | exact List.Mem.head _ | apply List.Mem.tail)))) rfl ?_
  refine TrP.call rfl (args2 rfl rfl) Try.call23 rfl (fun w1 _ => emul_any (timesL (onesI l) 5) (onesI l) w1 (timesL_len _ _ honesI) honesI) ?_
  refine TrP.hard rfl (W.alloc (cs := [0#64, 0#64, 0#64, 0#64, 0#64].map U64) Try.zeroValue41 rfl rfl fun g7 => ?_)
  refine Tr.pOn (by first | exact List.Sublist.refl _ | exact List.sublist_cons_self _ _ | exact List.sublist_append_right _ _ | simp) ?_
  refine TrP.hard rfl (W.storeAll (vs := (tenI l).map U64) (cs := [0#64, 0#64, 0#64, 0#64, 0#64].map U64) Try.sizeOf41 rfl rfl (by rw [List.length_map, htenI]) rfl (one64 _) (by repeat (first | exact Upd.head | apply Upd.tail)) ?_)
  refine Tr.pTail rfl ?_
  refine TrP.done ?_
  refine Tr.thenN ?_
  refine Tr.seq ?_
  refine Tr.region ?_
  refine Tr.val (V.loadN (cs := (tenI l).map U64) Try.isAgg41 (by rw [List.length_map, htenI]; exact Try.sizeOf41) rfl (V.cellsB (by repeat (first | exact List.Mem.head _ | apply List.Mem.tail)))) rfl ?_
  refine Tr.op (W.alloc (cs := [0#64, 0#64, 0#64, 0#64, 0#64].map U64) Try.zeroValue41 rfl rfl fun g8 => ?_)
  refine Tr.op (W.storeAll (vs := (tenI l).map U64) (cs := [0#64, 0#64, 0#64, 0#64, 0#64].map U64) Try.sizeOf41 rfl rfl (by rw [List.length_map, htenI]) rfl (one64 _) (by repeat (first | exact Upd.head | apply Upd.tail)) ?_)
  refine Tr.lNil ?_
  refine Tr.thenN ?_
  refine Tr.seq ?_
  refine Tr.seq ?_
  refine Tr.region ?_
  refine Tr.val ((V.buildA (vs := [(0, NV 10), (1, NV 20)]) (cs := ([NV 10, NV 20] : List Value).toArray) Try.runUnderlying78 Try.sizeOf3 Try.zeroValue78 (fun a he => by simp [Act.eval]) rfl)) rfl ?_
  refine Tr.val (V.move rfl) rfl ?_
  refine Tr.lNil ?_
  refine Tr.thenN ?_
  refine Tr.block ?_
  refine Tr.loop (ι := Nat) (fun k => k ≤ 2) (fun k => [(2, .pointer (some ⟨g2, 0, none⟩)), (5, .pointer (some ⟨g5, 0, none⟩)), (7, .pointer (some ⟨g7, 0, none⟩)), (8, .pointer (some ⟨g8, 0, none⟩)), (30, .agg ([NV 10, NV 20] : List Value).toArray), (31, NV k)]) (fun k => [⟨g8, 41, (tenK l k).map U64⟩, ⟨g7, 41, (tenI l).map U64⟩, ⟨g5, 41, (x11I l).map U64⟩, ⟨g2, 41, [0#64, 0#64, 0#64, 0#64, 0#64].map U64⟩]) (fun k => 2 - k) 0 (Nat.zero_le _) (lk_cons rfl (lk_cons rfl (lk_cons rfl (lk_cons rfl (lk_cons rfl (lk_cons rfl (lk_nil _))))))) (.cons_cons _ (.cons_cons _ (.cons _ (.cons_cons _ (.cons _ (.cons _ (.cons_cons _ (List.nil_sublist _)))))))) fun k hI => ?_
  have h3 : k = 0 ∨ k = 1 ∨ k = 2 := by omega
  rcases h3 with rfl | rfl | rfl
  · refine Tr.seq ?_
    refine Tr.region ?_
    refine Tr.val (V.lss (b := true) rfl rfl (decide_eq_true (by omega))) rfl ?_
    refine Tr.lNil ?_
    refine Tr.thenN ?_
    refine Tr.seq ?_
    refine Tr.condT rfl ?_
    refine Tr.skip ?_
    refine Tr.thenN ?_
    refine Tr.seq ?_
    refine Tr.block ?_
    refine Tr.seq ?_
    refine Tr.region ?_
    refine Tr.val (V.index1 (cs := [NV 10, NV 20]) (j := 0) Try.runUnderlying78 Try.sizeOf3 Try.isAgg3 rfl rfl rfl (by omega) rfl) rfl ?_
    refine Tr.val (V.assign rfl) rfl ?_
    refine Tr.lNil ?_
    refine Tr.thenN ?_
    refine Tr.regionD [0, 0, 3, 0, 15, 31] [5] (.soft 0 (.pure 1 (.soft 2 (.soft 3 (.soft 4 (.hard 5 .done)))))) mixed (by kernel_rfl) ?_
    refine TrP.soft rfl (V.loadN (cs := (tenI l).map U64) Try.isAgg41 (by rw [List.length_map, htenI]; exact Try.sizeOf41) rfl (V.cellsB (by repeat (first | exact List.Mem.head _ | apply List.Mem.tail)))) rfl ?_
    refine TrP.pure rfl (fun _ => V.move rfl) rfl ?_
    refine TrP.call rfl (args2 rfl rfl) Try.call40 rfl (fun w1 _ => etimes_any (tenI l) 10 w1 htenI (by omega)) ?_
    refine TrP.soft rfl (V.loadN (cs := (tenI l).map U64) Try.isAgg41 (by rw [List.length_map, htenI]; exact Try.sizeOf41) rfl (V.cellsB (by repeat (first | exact List.Mem.head _ | apply List.Mem.tail)))) rfl ?_
    refine TrP.call rfl (args2 rfl rfl) Try.call23 rfl (fun w1 _ => emul_any (timesL (tenI l) 10) (tenI l) w1 (timesL_len _ _ htenI) htenI) ?_
    refine TrP.hard rfl (W.storeAll (vs := (ten1I l).map U64) (cs := (tenI l).map U64) Try.sizeOf41 rfl rfl (by rw [List.length_map, hten1I]) (by rw [List.length_map, htenI]) (one64 _) (by repeat (first | exact Upd.head | apply Upd.tail)) ?_)
    refine Tr.pTail rfl ?_
    refine TrP.done ?_
    refine Tr.inN ?_
    refine Tr.thenN ?_
    refine Tr.region ?_
    refine Tr.val (V.add rfl rfl (by omega)) rfl ?_
    refine Tr.val (V.move rfl) rfl ?_
    refine Tr.lNil ?_
    exact Tr.again 1 (by omega) (by omega) (lk_cons rfl (lk_cons rfl (lk_cons rfl (lk_cons rfl (lk_cons rfl (lk_cons rfl (lk_nil _))))))) (List.Sublist.refl _)
  · refine Tr.seq ?_
    refine Tr.region ?_
    refine Tr.val (V.lss (b := true) rfl rfl (decide_eq_true (by omega))) rfl ?_
    refine Tr.lNil ?_
    refine Tr.thenN ?_
    refine Tr.seq ?_
    refine Tr.condT rfl ?_
    refine Tr.skip ?_
    refine Tr.thenN ?_
    refine Tr.seq ?_
    refine Tr.block ?_
    refine Tr.seq ?_
    refine Tr.region ?_
    refine Tr.val (V.index1 (cs := [NV 10, NV 20]) (j := 1) Try.runUnderlying78 Try.sizeOf3 Try.isAgg3 rfl rfl rfl (by omega) rfl) rfl ?_
    refine Tr.val (V.assign rfl) rfl ?_
    refine Tr.lNil ?_
    refine Tr.thenN ?_
    refine Tr.regionD [0, 0, 3, 0, 15, 31] [5] (.soft 0 (.pure 1 (.soft 2 (.soft 3 (.soft 4 (.hard 5 .done)))))) mixed (by kernel_rfl) ?_
    refine TrP.soft rfl (V.loadN (cs := (ten1I l).map U64) Try.isAgg41 (by rw [List.length_map, hten1I]; exact Try.sizeOf41) rfl (V.cellsB (by repeat (first | exact List.Mem.head _ | apply List.Mem.tail)))) rfl ?_
    refine TrP.pure rfl (fun _ => V.move rfl) rfl ?_
    refine TrP.call rfl (args2 rfl rfl) Try.call40 rfl (fun w1 _ => etimes_any (ten1I l) 20 w1 hten1I (by omega)) ?_
    refine TrP.soft rfl (V.loadN (cs := (ten1I l).map U64) Try.isAgg41 (by rw [List.length_map, hten1I]; exact Try.sizeOf41) rfl (V.cellsB (by repeat (first | exact List.Mem.head _ | apply List.Mem.tail)))) rfl ?_
    refine TrP.call rfl (args2 rfl rfl) Try.call23 rfl (fun w1 _ => emul_any (timesL (ten1I l) 20) (ten1I l) w1 (timesL_len _ _ hten1I) hten1I) ?_
    refine TrP.hard rfl (W.storeAll (vs := (ten2I l).map U64) (cs := (ten1I l).map U64) Try.sizeOf41 rfl rfl (by rw [List.length_map, hten2I]) (by rw [List.length_map, hten1I]) (one64 _) (by repeat (first | exact Upd.head | apply Upd.tail)) ?_)
    refine Tr.pTail rfl ?_
    refine TrP.done ?_
    refine Tr.inN ?_
    refine Tr.thenN ?_
    refine Tr.region ?_
    refine Tr.val (V.add rfl rfl (by omega)) rfl ?_
    refine Tr.val (V.move rfl) rfl ?_
    refine Tr.lNil ?_
    exact Tr.again 2 (by omega) (by omega) (lk_cons rfl (lk_cons rfl (lk_cons rfl (lk_cons rfl (lk_cons rfl (lk_cons rfl (lk_nil _))))))) (List.Sublist.refl _)
  · refine Tr.seq ?_
    refine Tr.region ?_
    refine Tr.val (V.lss (b := false) rfl rfl (decide_eq_false (by omega))) rfl ?_
    refine Tr.lNil ?_
    refine Tr.thenN ?_
    refine Tr.seq ?_
    refine Tr.condF rfl ?_
    refine Tr.exit ?_
    refine Tr.thenX ?_
    refine Tr.thenX ?_
    refine Tr.inHit ?_
    refine Tr.thenN ?_
    refine Tr.seq ?_
    refine Tr.regionD [0, 1, 0, 7, 0, 31] [5] (.soft 0 (.soft 1 (.soft 2 (.soft 3 (.hard 4 (.hard 5 .done)))))) mixed (by kernel_rfl) ?_
    refine TrP.soft rfl (V.loadN (cs := (ten2I l).map U64) Try.isAgg41 (by rw [List.length_map, hten2I]; exact Try.sizeOf41) rfl (V.cellsB (by repeat (first | exact List.Mem.head _ | apply List.Mem.tail)))) rfl ?_
    refine TrP.call rfl (args2 rfl rfl) Try.call40 rfl (fun w1 _ => etimes_any (ten2I l) 10 w1 hten2I (by omega)) ?_
    refine TrP.soft rfl (V.loadN (cs := (tenI l).map U64) Try.isAgg41 (by rw [List.length_map, htenI]; exact Try.sizeOf41) rfl (V.cellsB (by repeat (first | exact List.Mem.head _ | apply List.Mem.tail)))) rfl ?_
    refine TrP.call rfl (args2 rfl rfl) Try.call23 rfl (fun w1 _ => emul_any (timesL (ten2I l) 10) (tenI l) w1 (timesL_len _ _ hten2I) htenI) ?_
    refine TrP.hard rfl (W.alloc (cs := [0#64, 0#64, 0#64, 0#64, 0#64].map U64) Try.zeroValue41 rfl rfl fun g11 => ?_)
    refine Tr.pOn (by first | exact List.Sublist.refl _ | exact List.sublist_cons_self _ _ | exact List.sublist_append_right _ _ | simp) ?_
    refine TrP.hard rfl (W.storeAll (vs := (fiftyI l).map U64) (cs := [0#64, 0#64, 0#64, 0#64, 0#64].map U64) Try.sizeOf41 rfl rfl (by rw [List.length_map, hfiftyI]) rfl (one64 _) (by repeat (first | exact Upd.head | apply Upd.tail)) ?_)
    refine Tr.pTail rfl ?_
    refine TrP.done ?_
    refine Tr.thenN ?_
    refine Tr.seq ?_
    refine Tr.regionD [0, 1, 0, 7, 15] [4] (.soft 0 (.soft 1 (.soft 2 (.soft 3 (.hard 4 .done))))) mixed (by kernel_rfl) ?_
    refine TrP.soft rfl (V.loadN (cs := (fiftyI l).map U64) Try.isAgg41 (by rw [List.length_map, hfiftyI]; exact Try.sizeOf41) rfl (V.cellsB (by repeat (first | exact List.Mem.head _ | apply List.Mem.tail)))) rfl ?_
    refine TrP.call rfl (args2 rfl rfl) Try.call40 rfl (fun w1 _ => etimes_any (fiftyI l) 50 w1 hfiftyI (by omega)) ?_
    refine TrP.soft rfl (V.loadN (cs := (fiftyI l).map U64) Try.isAgg41 (by rw [List.length_map, hfiftyI]; exact Try.sizeOf41) rfl (V.cellsB (by repeat (first | exact List.Mem.head _ | apply List.Mem.tail)))) rfl ?_
    refine TrP.call rfl (args2 rfl rfl) Try.call23 rfl (fun w1 _ => emul_any (timesL (fiftyI l) 50) (fiftyI l) w1 (timesL_len _ _ hfiftyI) hfiftyI) ?_
    refine TrP.hard rfl (W.storeAll (vs := (allI l).map U64) (cs := (ten2I l).map U64) Try.sizeOf41 rfl rfl (by rw [List.length_map, hallI]) (by rw [List.length_map, hten2I]) (one64 _) (by repeat (first | exact Upd.head | apply Upd.tail)) ?_)
    refine Tr.pTail rfl ?_
    refine TrP.done ?_
    refine Tr.thenN ?_
    refine Tr.seq ?_
    refine Tr.regionD [0, 1, 0, 7, 15] [4] (.soft 0 (.soft 1 (.soft 2 (.soft 3 (.hard 4 .done))))) mixed (by kernel_rfl) ?_
    refine TrP.soft rfl (V.loadN (cs := (allI l).map U64) Try.isAgg41 (by rw [List.length_map, hallI]; exact Try.sizeOf41) rfl (V.cellsB (by repeat (first | exact List.Mem.head _ | apply List.Mem.tail)))) rfl ?_
    refine TrP.call rfl (args2 rfl rfl) Try.call40 rfl (fun w1 _ => etimes_any (allI l) 100 w1 hallI (by omega)) ?_
    refine TrP.soft rfl (V.loadN (cs := (allI l).map U64) Try.isAgg41 (by rw [List.length_map, hallI]; exact Try.sizeOf41) rfl (V.cellsB (by repeat (first | exact List.Mem.head _ | apply List.Mem.tail)))) rfl ?_
    refine TrP.call rfl (args2 rfl rfl) Try.call23 rfl (fun w1 _ => emul_any (timesL (allI l) 100) (allI l) w1 (timesL_len _ _ hallI) hallI) ?_
    refine TrP.hard rfl (W.storeAll (vs := (all2I l).map U64) (cs := (allI l).map U64) Try.sizeOf41 rfl rfl (by rw [List.length_map, hall2I]) (by rw [List.length_map, hallI]) (one64 _) (by repeat (first | exact Upd.head | apply Upd.tail)) ?_)
    refine Tr.pTail rfl ?_
    refine TrP.done ?_
    refine Tr.thenN ?_
    refine Tr.seq ?_
    refine Tr.regionD [0, 1, 0, 7, 15] [4] (.soft 0 (.soft 1 (.soft 2 (.soft 3 (.hard 4 .done))))) mixed (by kernel_rfl) ?_
    refine TrP.soft rfl (V.loadN (cs := (all2I l).map U64) Try.isAgg41 (by rw [List.length_map, hall2I]; exact Try.sizeOf41) rfl (V.cellsB (by repeat (first | exact List.Mem.head _ | apply List.Mem.tail)))) rfl ?_
    refine TrP.call rfl (args2 rfl rfl) Try.call40 rfl (fun w1 _ => etimes_any (all2I l) 50 w1 hall2I (by omega)) ?_
    refine TrP.soft rfl (V.loadN (cs := (fiftyI l).map U64) Try.isAgg41 (by rw [List.length_map, hfiftyI]; exact Try.sizeOf41) rfl (V.cellsB (by repeat (first | exact List.Mem.head _ | apply List.Mem.tail)))) rfl ?_
    refine TrP.call rfl (args2 rfl rfl) Try.call23 rfl (fun w1 _ => emul_any (timesL (all2I l) 50) (fiftyI l) w1 (timesL_len _ _ hall2I) hfiftyI) ?_
    refine TrP.hard rfl (W.storeAll (vs := (all3I l).map U64) (cs := (all2I l).map U64) Try.sizeOf41 rfl rfl (by rw [List.length_map, hall3I]) (by rw [List.length_map, hall2I]) (one64 _) (by repeat (first | exact Upd.head | apply Upd.tail)) ?_)
    refine Tr.pTail rfl ?_
    refine TrP.done ?_
    refine Tr.thenN ?_
    refine Tr.seq ?_
    refine Tr.regionD [0, 1, 0, 7, 15] [4] (.soft 0 (.soft 1 (.soft 2 (.soft 3 (.hard 4 .done))))) mixed (by kernel_rfl) ?_
    refine TrP.soft rfl (V.loadN (cs := (all3I l).map U64) Try.isAgg41 (by rw [List.length_map, hall3I]; exact Try.sizeOf41) rfl (V.cellsB (by repeat (first | exact List.Mem.head _ | apply List.Mem.tail)))) rfl ?_
    refine TrP.call rfl (args2 rfl rfl) Try.call40 rfl (fun w1 _ => etimes_any (all3I l) 5 w1 hall3I (by omega)) ?_
    refine TrP.soft rfl (V.loadN (cs := (x11I l).map U64) Try.isAgg41 (by rw [List.length_map, hx11I]; exact Try.sizeOf41) rfl (V.cellsB (by repeat (first | exact List.Mem.head _ | apply List.Mem.tail)))) rfl ?_
    refine TrP.call rfl (args2 rfl rfl) Try.call23 rfl (fun w1 _ => emul_any (timesL (all3I l) 5) (x11I l) w1 (timesL_len _ _ hall3I) hx11I) ?_
    refine TrP.hard rfl (W.storeAll (vs := (invL l).map U64) (cs := [0#64, 0#64, 0#64, 0#64, 0#64].map U64) Try.sizeOf41 rfl rfl (by rw [List.length_map, hinvL]) rfl (one64 _) (by repeat (first | exact Upd.head | apply Upd.tail)) ?_)
    refine Tr.pTail rfl ?_
    refine TrP.done ?_
    refine Tr.thenN ?_
    refine Tr.ret ?_
    refine Tr.out1 rfl (Res.cellN (cs := (invL l).map U64) rfl Try.isAgg41 (by rw [List.length_map, hinvL]; exact Try.sizeOf41) (by repeat (first | exact List.Mem.head _ | apply List.Mem.tail))) fun w hw => ?_
    exact ⟨rfl, hw.sub (List.nil_sublist _)⟩

end Go.Proofs.Ytgkndcincgpmdaa
