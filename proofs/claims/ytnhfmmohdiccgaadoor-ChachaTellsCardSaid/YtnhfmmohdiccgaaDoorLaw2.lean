/-
  hatchwaylaw02: shown. (Printed by a program of this session over its walk printer.)
-/
import Derived.Test.YtnhfmmohdiccgaaDoorPlainLaw2
import Derived.Test.YtnhfmmohdiccgaaDoorChachaB
namespace Go.Proofs.YtnhfmmohdiccgaaDoor
open Go.Sym Plain
set_option linter.unusedVariables false

theorem shown2_true (w : World) (hq0 : RdB w (some ⟨0, 0, none⟩) (qflat.map NV)) : Calls Tryd.prog 14 #[] w fun r w' => r = .returned (.bool true) ∧ Hp w [] [] w' := by
  obtain ⟨hb0, hb1, hb2, hb3, hb63⟩ := block_zero
  refine Tr.enter Tryd.func14 rfl Tryd.ntmps14 rfl (Hp.refl w) ?_
  refine Tr.seq ?_
  refine Tr.region ?_
  refine Tr.val (V.assign rfl) rfl ?_
  refine Tr.lNil ?_
  refine Tr.thenN ?_
  refine Tr.seq ?_
  refine Tr.region ?_
  refine Tr.val ((V.buildA (vs := []) (cs := (Z32.map U8).toArray) Tryd.runUnderlying23 Tryd.sizeOf5 Tryd.zeroValue23 (fun a he => by simp [Act.eval]) rfl)) rfl ?_
  refine Tr.val ((V.buildA (vs := []) (cs := (Z12.map U8).toArray) Tryd.runUnderlying26 Tryd.sizeOf5 Tryd.zeroValue26 (fun a he => by simp [Act.eval]) rfl)) rfl ?_
  refine Tr.op (W.call1 (vs := [_, U32 0#32, _]) (args3 rfl rfl rfl) Tryd.call15 rfl (fun w1 hw => block_any Z32 0#32 Z12 w1 rfl rfl ((RdP.old hq0 (fun _ _ => by simp)).now hw)) ?_)
  refine Tr.op (W.alloc (cs := (List.replicate 64 0#8).map U8) Tryd.zeroValue29 rfl rfl fun g1 => ?_)
  refine Tr.op (W.storeAll (vs := (blockL Z32 0#32 Z12).map U8) (cs := (List.replicate 64 0#8).map U8) Tryd.sizeOf29 rfl rfl (by rw [List.length_map, blockL_len]) rfl (one8 _) (by repeat (first | exact Upd.head | apply Upd.tail)) ?_)
  refine Tr.lNil ?_
  refine Tr.thenN ?_
  refine Tr.seq ?_
  refine Tr.region ?_
  refine Tr.val (V.idxA (j := 0) (o' := 0) Tryd.runUnderlying29 Tryd.sizeOf5 rfl rfl rfl (by omega) rfl) rfl ?_
  refine Tr.val (V.load1 Tryd.isAgg5 rfl (V.cellB (by repeat (first | exact List.Mem.head _ | apply List.Mem.tail)) (get8 (blockL Z32 0#32 Z12) 0 (by rw [blockL_len]; omega)))) rfl ?_
  refine Tr.val (V.eql8 (Y := 118#8) (b := true) rfl rfl (by rw [hb0]; decide)) rfl ?_
  refine Tr.val (V.move rfl) rfl ?_
  refine Tr.valG rfl (V.idxA (j := 1) (o' := 1) Tryd.runUnderlying29 Tryd.sizeOf5 rfl rfl rfl (by omega) rfl) rfl ?_
  refine Tr.valG rfl (V.load1 Tryd.isAgg5 rfl (V.cellB (by repeat (first | exact List.Mem.head _ | apply List.Mem.tail)) (get8 (blockL Z32 0#32 Z12) 1 (by rw [blockL_len]; omega)))) rfl ?_
  refine Tr.valG rfl (V.eql8 (Y := 184#8) (b := true) rfl rfl (by rw [hb1]; decide)) rfl ?_
  refine Tr.val (V.pick rfl rfl) rfl ?_
  refine Tr.val (V.move rfl) rfl ?_
  refine Tr.valG rfl (V.idxA (j := 2) (o' := 2) Tryd.runUnderlying29 Tryd.sizeOf5 rfl rfl rfl (by omega) rfl) rfl ?_
  refine Tr.valG rfl (V.load1 Tryd.isAgg5 rfl (V.cellB (by repeat (first | exact List.Mem.head _ | apply List.Mem.tail)) (get8 (blockL Z32 0#32 Z12) 2 (by rw [blockL_len]; omega)))) rfl ?_
  refine Tr.valG rfl (V.eql8 (Y := 224#8) (b := true) rfl rfl (by rw [hb2]; decide)) rfl ?_
  refine Tr.val (V.pick rfl rfl) rfl ?_
  refine Tr.val (V.move rfl) rfl ?_
  refine Tr.valG rfl (V.idxA (j := 3) (o' := 3) Tryd.runUnderlying29 Tryd.sizeOf5 rfl rfl rfl (by omega) rfl) rfl ?_
  refine Tr.valG rfl (V.load1 Tryd.isAgg5 rfl (V.cellB (by repeat (first | exact List.Mem.head _ | apply List.Mem.tail)) (get8 (blockL Z32 0#32 Z12) 3 (by rw [blockL_len]; omega)))) rfl ?_
  refine Tr.valG rfl (V.eql8 (Y := 173#8) (b := true) rfl rfl (by rw [hb3]; decide)) rfl ?_
  refine Tr.val (V.pick rfl rfl) rfl ?_
  refine Tr.val (V.move rfl) rfl ?_
  refine Tr.valG rfl (V.idxA (j := 63) (o' := 63) Tryd.runUnderlying29 Tryd.sizeOf5 rfl rfl rfl (by omega) rfl) rfl ?_
  refine Tr.valG rfl (V.load1 Tryd.isAgg5 rfl (V.cellB (by repeat (first | exact List.Mem.head _ | apply List.Mem.tail)) (get8 (blockL Z32 0#32 Z12) 63 (by rw [blockL_len]; omega)))) rfl ?_
  refine Tr.valG rfl (V.eql8 (Y := 134#8) (b := true) rfl rfl (by rw [hb63]; decide)) rfl ?_
  refine Tr.val (V.pick rfl rfl) rfl ?_
  refine Tr.val (V.move rfl) rfl ?_
  refine Tr.valG rfl ((V.buildA (vs := []) (cs := (Z32.map U8).toArray) Tryd.runUnderlying23 Tryd.sizeOf5 Tryd.zeroValue23 (fun a he => by simp [Act.eval]) rfl)) rfl ?_
  refine Tr.valG rfl ((V.buildA (vs := []) (cs := (Z12.map U8).toArray) Tryd.runUnderlying26 Tryd.sizeOf5 Tryd.zeroValue26 (fun a he => by simp [Act.eval]) rfl)) rfl ?_
  refine Tr.opG rfl (W.build (vs := [U8 97#8, U8 98#8, U8 99#8]) elem27 (fun a _ => by simp [Act.eval, List.range'_succ]) rfl (by simp [Value.cells]) (by omega) rfl fun g31 => ?_)
  refine Tr.opG rfl (W.stringish (cs := [U8 97#8, U8 98#8, U8 99#8]) Tryd.runUnderlying27 Tryd.runUnderlying5 rfl rfl (List.Perm.refl _) fun wq hq1 hr1 hg1 => ?_)
  have hqq : Hp w [] [⟨g1, 29, (blockL Z32 0#32 Z12).map U8⟩] wq → RdB wq (some ⟨0, 0, none⟩) (qflat.map NV) := fun hq => (RdP.old hq0 (fun _ _ => by simp)).now hq
  have hg10 : (⟨0, 0, none⟩ : Addr).block ∉ ([⟨g1, 29, (blockL Z32 0#32 Z12).map U8⟩] : List Ent).map (·.g) := by
    intro hm
    have h1 : 0 = g1 := by simpa using hm
    have h2 := (hq1.blk _ (.head _)).2
    have h3 := World.block_lt_of_cell? w _ (hq0 0 _ rfl).2
    rw [at_own] at h3
    rcases h2 with h2 | h2
    · cases h2
    · have h2' : w.heap.size ≤ g1 := h2
      have h3' : 0 < w.heap.size := h3
      omega
  refine Tr.opG rfl (W.call (val := fun x : Nat × Nat × List Value => .slice (some ⟨x.1, 0, none⟩) 3 x.2.1) (N := fun x => [⟨x.1, 5, (streamL Z32 0#32 Z12 [97#8, 98#8, 99#8]).map U8 ++ x.2.2⟩]) (Px := fun x => ((streamL Z32 0#32 Z12 [97#8, 98#8, 99#8]).map U8 ++ x.2.2).length = x.2.1) (vs := [_, U32 0#32, _, _]) (args4 rfl rfl rfl rfl) Tryd.call16 rfl (fun w1 hw => stream_any (some ⟨g31, 0, none⟩) 3 3 Z32 0#32 Z12 [97#8, 98#8, 99#8] w1 rfl rfl ⟨(RdP.old hr1 (fun _ h => by cases h; exact hg1)).now hw, rfl, Nat.le_refl _, by omega, fun h => by cases h⟩ (by omega) ((RdP.old (hqq hq1) (fun _ h => by cases h; exact hg10)).now hw)) fun y hy => ?_)
  refine Tr.valG rfl (V.len Tryd.runUnderlying27 rfl) rfl ?_
  refine Tr.valG rfl (V.eql (b := true) rfl rfl (decide_eq_true rfl)) rfl ?_
  refine Tr.val (V.pick rfl rfl) rfl ?_
  refine Tr.val (V.assign rfl) rfl ?_
  refine Tr.lNil ?_
  refine Tr.thenN ?_
  refine Tr.ret ?_
  refine Tr.out1 rfl (Res.tmp rfl) fun w hw => ?_
  exact ⟨rfl, (hq1.trans hw).sub (List.nil_sublist _)⟩

end Go.Proofs.YtnhfmmohdiccgaaDoor
