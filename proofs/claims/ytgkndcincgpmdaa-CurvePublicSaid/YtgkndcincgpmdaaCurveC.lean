/-
  Contracts of package curve: Public, Shared. (Printed by a program of this session over its walk printer.)
-/
import Derived.Test.YtgkndcincgpmdaaCurveB
namespace Go.Proofs.Ytgkndcincgpmdaa
open Go.Sym Plain
set_option linter.unusedVariables false
set_option maxRecDepth 20000

theorem public_any (kb : List (BitVec 8)) (w : World) (hk : kb.length = 32) : Calls Try.prog 15 [.agg (kb.map U8).toArray].toArray w fun r w' => r = .returned (.agg ((multL kb nineK).map U8).toArray) ∧ Hp w [] [] w' := by
  have hml : (multL kb nineK).length = 32 := multL_len kb nineK
  refine Tr.enter Try.func15 rfl Try.ntmps15 rfl (Hp.refl w) ?_
  refine Tr.seq ?_
  refine Tr.region ?_
  refine Tr.op (W.box (cs := kb.map U8) rfl rfl rfl fun g1 => ?_)
  refine Tr.op (W.alloc (cs := (List.replicate 32 0#8).map U8) Try.zeroValue23 rfl rfl fun g2 => ?_)
  refine Tr.lNil ?_
  refine Tr.thenN ?_
  refine Tr.seq ?_
  refine Tr.region ?_
  refine Tr.val (V.loadN (cs := kb.map U8) Try.isAgg23 (by rw [List.length_map, hk]; exact Try.sizeOf23) rfl (V.cellsB (by repeat (first | exact List.Mem.head _ | apply List.Mem.tail)))) rfl ?_
  refine Tr.val ((V.buildA (vs := [(0, U8 9#8)]) (cs := (nineK.map U8).toArray) Try.runUnderlying23 Try.sizeOf5 Try.zeroValue23 (fun a he => by simp [Act.eval]) rfl)) rfl ?_
  refine Tr.op (W.call1 (args2 rfl rfl) Try.call12 rfl (fun w1 _ => mult_any kb nineK w1 hk rfl) ?_)
  refine Tr.op (W.storeAll (vs := (multL kb nineK).map U8) (cs := (List.replicate 32 0#8).map U8) Try.sizeOf23 rfl rfl (by rw [List.length_map, hml]) rfl (one8 _) (by repeat (first | exact Upd.head | apply Upd.tail)) ?_)
  refine Tr.lNil ?_
  refine Tr.thenN ?_
  refine Tr.ret ?_
  refine Tr.out1 rfl (Res.cellN (cs := (multL kb nineK).map U8) rfl Try.isAgg23 (by rw [List.length_map, hml]; exact Try.sizeOf23) (by repeat (first | exact List.Mem.head _ | apply List.Mem.tail))) fun w hw => ?_
  exact ⟨rfl, hw.sub (List.nil_sublist _)⟩

theorem shared_any (kb ub : List (BitVec 8)) (w : World) (hk : kb.length = 32) (hu : ub.length = 32) : Calls Try.prog 13 [.agg (kb.map U8).toArray, .agg (ub.map U8).toArray].toArray w fun r w' => r = .returned (.tuple #[.agg ((multL kb ub).map U8).toArray, .int .i64 (if multL kb ub = zeroK then 4 else 0)]) ∧ Hp w [] [] w' := by
  obtain ⟨x, hx⟩ : ∃ x, x = multL kb ub := ⟨_, rfl⟩
  have hxl : x.length = 32 := by rw [hx]; exact multL_len kb ub
  rw [← hx]
  refine Tr.enter Try.func13 rfl Try.ntmps13 rfl (Hp.refl w) ?_
  refine Tr.seq ?_
  refine Tr.region ?_
  refine Tr.op (W.box (cs := kb.map U8) rfl rfl rfl fun g2 => ?_)
  refine Tr.op (W.box (cs := ub.map U8) rfl rfl rfl fun g3 => ?_)
  refine Tr.op (W.alloc (cs := (List.replicate 32 0#8).map U8) Try.zeroValue23 rfl rfl fun g4 => ?_)
  refine Tr.val (V.assign rfl) rfl ?_
  refine Tr.lNil ?_
  refine Tr.thenN ?_
  refine Tr.seq ?_
  refine Tr.region ?_
  refine Tr.val (V.loadN (cs := kb.map U8) Try.isAgg23 (by rw [List.length_map, hk]; exact Try.sizeOf23) rfl (V.cellsB (by repeat (first | exact List.Mem.head _ | apply List.Mem.tail)))) rfl ?_
  refine Tr.val (V.loadN (cs := ub.map U8) Try.isAgg23 (by rw [List.length_map, hu]; exact Try.sizeOf23) rfl (V.cellsB (by repeat (first | exact List.Mem.head _ | apply List.Mem.tail)))) rfl ?_
  refine Tr.op (W.call1 (args2 rfl rfl) Try.call12 rfl (fun w1 _ => by have h := mult_any kb ub w1 hk hu; rw [← hx] at h; exact h) ?_)
  refine Tr.op (W.alloc (cs := (List.replicate 32 0#8).map U8) Try.zeroValue23 rfl rfl fun g6 => ?_)
  refine Tr.op (W.storeAll (vs := x.map U8) (cs := (List.replicate 32 0#8).map U8) Try.sizeOf23 rfl rfl (by rw [List.length_map, hxl]) rfl (one8 _) (by repeat (first | exact Upd.head | apply Upd.tail)) ?_)
  refine Tr.lNil ?_
  refine Tr.thenN ?_
  refine Tr.seq ?_
  refine Tr.seq ?_
  refine Tr.region ?_
  refine Tr.val (V.loadN (cs := x.map U8) Try.isAgg23 (by rw [List.length_map, hxl]; exact Try.sizeOf23) rfl (V.cellsB (by repeat (first | exact List.Mem.head _ | apply List.Mem.tail)))) rfl ?_
  refine Tr.val ((V.buildA (vs := []) (cs := (zeroK.map U8).toArray) Try.runUnderlying23 Try.sizeOf5 Try.zeroValue23 (fun a he => by simp [Act.eval]) rfl)) rfl ?_
  refine Tr.val (V.eqlA (b := decide (x = zeroK)) arr23 rfl rfl hxl rfl rfl) rfl ?_
  refine Tr.lNil ?_
  refine Tr.thenN ?_
  refine Tr.cond rfl (fun hT0 => ?_) (fun hF0 => ?_)
  · simp only [decide_eq_true_eq] at hT0
    refine Tr.seq ?_
    refine Tr.region ?_
    refine Tr.val (V.loadN (cs := x.map U8) Try.isAgg23 (by rw [List.length_map, hxl]; exact Try.sizeOf23) rfl (V.cellsB (by repeat (first | exact List.Mem.head _ | apply List.Mem.tail)))) rfl ?_
    refine Tr.op (W.storeAll (vs := x.map U8) (cs := (List.replicate 32 0#8).map U8) Try.sizeOf23 rfl rfl (by rw [List.length_map, hxl]) rfl (one8 _) (by repeat (first | exact Upd.head | apply Upd.tail)) ?_)
    refine Tr.val (V.assign rfl) rfl ?_
    refine Tr.lNil ?_
    refine Tr.thenN ?_
    refine Tr.ret ?_
    refine Tr.thenR ?_
    refine Tr.out2 rfl (Res.cellN (cs := x.map U8) rfl Try.isAgg23 (by rw [List.length_map, hxl]; exact Try.sizeOf23) (by repeat (first | exact List.Mem.head _ | apply List.Mem.tail))) (Res.tmp rfl) fun w hw => ?_
    first | exact ⟨by rw [if_pos hT0], hw.sub (List.nil_sublist _)⟩ | exact ⟨by rw [if_neg hF0], hw.sub (List.nil_sublist _)⟩
  · simp only [decide_eq_false_iff_not] at hF0
    refine Tr.skip ?_
    refine Tr.thenN ?_
    refine Tr.seq ?_
    refine Tr.region ?_
    refine Tr.val (V.loadN (cs := x.map U8) Try.isAgg23 (by rw [List.length_map, hxl]; exact Try.sizeOf23) rfl (V.cellsB (by repeat (first | exact List.Mem.head _ | apply List.Mem.tail)))) rfl ?_
    refine Tr.op (W.storeAll (vs := x.map U8) (cs := (List.replicate 32 0#8).map U8) Try.sizeOf23 rfl rfl (by rw [List.length_map, hxl]) rfl (one8 _) (by repeat (first | exact Upd.head | apply Upd.tail)) ?_)
    refine Tr.val (V.assign rfl) rfl ?_
    refine Tr.lNil ?_
    refine Tr.thenN ?_
    refine Tr.ret ?_
    refine Tr.out2 rfl (Res.cellN (cs := x.map U8) rfl Try.isAgg23 (by rw [List.length_map, hxl]; exact Try.sizeOf23) (by repeat (first | exact List.Mem.head _ | apply List.Mem.tail))) (Res.tmp rfl) fun w hw => ?_
    first | exact ⟨by rw [if_pos hT0], hw.sub (List.nil_sublist _)⟩ | exact ⟨by rw [if_neg hF0], hw.sub (List.nil_sublist _)⟩

end Go.Proofs.Ytgkndcincgpmdaa
