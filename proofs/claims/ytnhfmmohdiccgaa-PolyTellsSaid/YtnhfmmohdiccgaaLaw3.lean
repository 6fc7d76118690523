/-
  hatchwaylaw03: shown, and number. (Printed by a program of this session over its walk printer.)
-/
import Derived.Test.YtnhfmmohdiccgaaPlainLaw3
import Derived.Test.YtnhfmmohdiccgaaPolyB
namespace Go.Proofs.Ytnhfmmohdiccgaa
open Go.Sym Plain
set_option linter.unusedVariables false

theorem number_any (l : List (BitVec 8)) (w : World) (hl : l.length = 16) :
    Calls Try.prog 38 [.agg (l.map U8).toArray].toArray w fun r w' => r = .returned (.tuple #[U64 (getW false l 0 8), U64 (getW false l 8 8)]) ∧ Hp w [] [] w' := by
  refine Tr.enter Try.func38 rfl Try.ntmps38 rfl (Hp.refl w) ?_
  refine Tr.seq ?_
  refine Tr.region ?_
  refine Tr.op (W.box (cs := l.map U8) rfl rfl rfl fun g1 => ?_)
  refine Tr.val (V.assign (v := U64 0#64) rfl) rfl ?_
  refine Tr.val (V.assign (v := U64 0#64) rfl) rfl ?_
  refine Tr.lNil ?_
  refine Tr.thenN ?_
  refine Tr.seq ?_
  refine Tr.region ?_
  refine Tr.val (V.assign (v := U64 0#64) rfl) rfl ?_
  refine Tr.lNil ?_
  refine Tr.thenN ?_
  refine Tr.seq ?_
  refine Tr.region ?_
  refine Tr.val (V.assign (v := U64 0#64) rfl) rfl ?_
  refine Tr.lNil ?_
  refine Tr.thenN ?_
  refine Tr.seq ?_
  refine Tr.seq ?_
  refine Tr.region ?_
  refine Tr.val (V.assign rfl) rfl ?_
  refine Tr.lNil ?_
  refine Tr.thenN ?_
  refine Tr.block ?_
  refine Tr.loop (ι := Nat) (fun j => j ≤ 8) (fun j => [(1, .pointer (some ⟨g1, 0, none⟩)), (4, U64 (getL ((ordB false (cutB l 0 8)).take j))), (5, U64 (getL ((ordB false (cutB l 8 8)).take j))), (6, .int .i64 (7 - (j : Int)))]) (fun j => [⟨g1, 53, l.map U8⟩]) (fun j => 8 - j) 0 (Nat.zero_le _) (lk_cons rfl (lk_cons rfl (lk_cons rfl (lk_cons rfl (lk_nil _))))) (List.Sublist.refl _) fun j hI => ?_
  refine Tr.seq ?_
  refine Tr.seq ?_
  refine Tr.region ?_
  refine Tr.val (V.move rfl) rfl ?_
  refine Tr.val (V.geq rfl rfl rfl) rfl ?_
  refine Tr.lNil ?_
  refine Tr.thenN ?_
  refine Tr.cond rfl (fun hT0 => ?_) (fun hF0 => ?_)
  · simp only [decide_eq_true_eq] at hT0
    have hlt : j < 8 := by omega
    obtain ⟨a, ha⟩ : ∃ a, l[7 - j]? = some a := ⟨_, List.getElem?_eq_getElem (by omega)⟩
    obtain ⟨b, hb⟩ : ∃ b, l[15 - j]? = some b := ⟨_, List.getElem?_eq_getElem (by omega)⟩
    have hs1 := ord_F (xs := l) (at0 := 0) (size := 8) (k := j) (by omega) hlt (b := a) (by rw [show 0 + 8 - 1 - j = 7 - j by omega]; exact ha)
    have hs2 := ord_F (xs := l) (at0 := 8) (size := 8) (k := j) (by omega) hlt (b := b) (by rw [show 8 + 8 - 1 - j = 15 - j by omega]; exact hb)
    refine Tr.skip ?_
    refine Tr.thenN ?_
    refine Tr.seq ?_
    refine Tr.block ?_
    refine Tr.seq ?_
    refine Tr.region ?_
    refine Tr.val (V.move rfl) rfl ?_
    refine Tr.val (V.mul64 (Y := 256#64) rfl rfl) rfl ?_
    refine Tr.val (V.move rfl) rfl ?_
    refine Tr.val (V.idxA (j := (7 - j)) (o' := (7 - j)) Try.runUnderlying53 Try.sizeOf5 rfl rfl (by omega) (by omega) (by omega)) rfl ?_
    refine Tr.val (V.load1 Try.isAgg5 rfl (V.cellB (by repeat (first | exact List.Mem.head _ | apply List.Mem.tail)) (by rw [List.getElem?_map, ha]; rfl))) rfl ?_
    refine Tr.val (V.conv8_64 Try.runUnderlying5 Try.runUnderlying23 rfl) rfl ?_
    refine Tr.val (V.add64 rfl rfl) rfl ?_
    refine Tr.val (V.assign rfl) rfl ?_
    refine Tr.lNil ?_
    refine Tr.thenN ?_
    refine Tr.region ?_
    refine Tr.val (V.move rfl) rfl ?_
    refine Tr.val (V.mul64 (Y := 256#64) rfl rfl) rfl ?_
    refine Tr.val (V.move rfl) rfl ?_
    refine Tr.val (V.add rfl rfl (by omega)) rfl ?_
    refine Tr.val (V.idxA (j := (15 - j)) (o' := (15 - j)) Try.runUnderlying53 Try.sizeOf5 rfl rfl (by omega) (by omega) (by omega)) rfl ?_
    refine Tr.val (V.load1 Try.isAgg5 rfl (V.cellB (by repeat (first | exact List.Mem.head _ | apply List.Mem.tail)) (by rw [List.getElem?_map, hb]; rfl))) rfl ?_
    refine Tr.val (V.conv8_64 Try.runUnderlying5 Try.runUnderlying23 rfl) rfl ?_
    refine Tr.val (V.add64 rfl rfl) rfl ?_
    refine Tr.val (V.assign rfl) rfl ?_
    refine Tr.lNil ?_
    refine Tr.inN ?_
    refine Tr.thenN ?_
    refine Tr.region ?_
    refine Tr.val (V.move rfl) rfl ?_
    refine Tr.val (V.sub rfl rfl (by omega)) rfl ?_
    refine Tr.val (V.assign rfl) rfl ?_
    refine Tr.lNil ?_
    exact Tr.again (j + 1) (by omega) (by omega) (lk_cons rfl (lk_cons (by rw [hs1, ← mul_add_or]; rfl) (lk_cons (by rw [hs2, ← mul_add_or]; rfl) (lk_cons (by rw [show (7 : Int) - ((j + 1 : Nat) : Int) = 7 - (j : Int) - 1 by omega]; rfl) (lk_nil _))))) (List.Sublist.refl _)
  · simp only [decide_eq_false_iff_not] at hF0
    refine Tr.exit ?_
    refine Tr.thenX ?_
    refine Tr.thenX ?_
    refine Tr.inHit ?_
    refine Tr.thenN ?_
    refine Tr.seq ?_
    refine Tr.region ?_
    refine Tr.val (V.move rfl) rfl ?_
    refine Tr.val (V.move rfl) rfl ?_
    refine Tr.val (V.assign rfl) rfl ?_
    refine Tr.val (V.assign rfl) rfl ?_
    refine Tr.lNil ?_
    refine Tr.thenN ?_
    refine Tr.ret ?_
    refine Tr.out2 rfl (Res.tmp rfl) (Res.tmp rfl) fun w hw => ?_
    obtain rfl : j = 8 := by omega
    exact ⟨by rw [getW_full (by omega), getW_full (by omega)], hw.sub (List.nil_sublist _)⟩

theorem shown3_true (w : World) : Calls Try.prog 35 #[] w fun r w' => r = .returned (.bool true) ∧ Hp w [] [] w' := by
  refine Tr.enter Try.func35 rfl Try.ntmps35 rfl (Hp.refl w) ?_
  refine Tr.seq ?_
  refine Tr.region ?_
  refine Tr.val (V.assign rfl) rfl ?_
  refine Tr.lNil ?_
  refine Tr.thenN ?_
  refine Tr.seq ?_
  refine Tr.region ?_
  refine Tr.op (W.alloc (cs := (keyUp 0).map U8) Try.zeroValue52 rfl rfl fun g1 => ?_)
  refine Tr.lNil ?_
  refine Tr.thenN ?_
  refine Tr.seq ?_
  refine Tr.seq ?_
  refine Tr.region ?_
  refine Tr.val (V.assign rfl) rfl ?_
  refine Tr.lNil ?_
  refine Tr.thenN ?_
  refine Tr.block ?_
  refine Tr.loop (ι := Nat) (fun i => i ≤ 16) (fun i => [(1, .pointer (some ⟨g1, 0, none⟩)), (2, .int .i64 (i : Int))]) (fun i => [⟨g1, 52, (keyUp i).map U8⟩]) (fun i => 16 - i) 0 (Nat.zero_le _) (lk_cons rfl (lk_cons rfl (lk_nil _))) (List.Sublist.refl _) fun i hI => ?_
  refine Tr.seq ?_
  refine Tr.seq ?_
  refine Tr.region ?_
  refine Tr.val (V.move rfl) rfl ?_
  refine Tr.val (V.lss rfl rfl rfl) rfl ?_
  refine Tr.lNil ?_
  refine Tr.thenN ?_
  refine Tr.cond rfl (fun hT0 => ?_) (fun hF0 => ?_)
  · simp only [decide_eq_true_eq] at hT0
    have hlt : i < 16 := by omega
    refine Tr.skip ?_
    refine Tr.thenN ?_
    refine Tr.seq ?_
    refine Tr.block ?_
    refine Tr.region ?_
    refine Tr.val (V.move rfl) rfl ?_
    refine Tr.val (V.add rfl rfl (by omega)) rfl ?_
    refine Tr.val (V.move rfl) rfl ?_
    refine Tr.val (V.convI_8 Try.runUnderlying3 Try.runUnderlying5 rfl) rfl ?_
    refine Tr.val (V.idxA (j := (16 + i)) (o' := (16 + i)) Try.runUnderlying52 Try.sizeOf5 rfl rfl (by omega) (by omega) (by omega)) rfl ?_
    refine Tr.op (W.store1E (cs := (keyUp i).map U8) (v := U8 (BitVec.ofInt 8 (i : Int))) (cs' := (keyUp (i + 1)).map U8) Try.sizeOf5 rfl rfl rfl rfl (by rw [← keyUp_set i hlt, List.map_set]) (by repeat (first | exact Upd.head | apply Upd.tail)) (by rw [List.length_map, keyUp_len]; omega) ?_)
    refine Tr.lNil ?_
    refine Tr.inN ?_
    refine Tr.thenN ?_
    refine Tr.region ?_
    refine Tr.val (V.move rfl) rfl ?_
    refine Tr.val (V.add rfl rfl (by omega)) rfl ?_
    refine Tr.val (V.assign rfl) rfl ?_
    refine Tr.lNil ?_
    exact Tr.again (i + 1) (by omega) (by omega) (lk_cons rfl (lk_cons rfl (lk_nil _))) (List.Sublist.refl _)
  · simp only [decide_eq_false_iff_not] at hF0
    obtain rfl : i = 16 := by omega
    refine Tr.exit ?_
    refine Tr.thenX ?_
    refine Tr.thenX ?_
    refine Tr.inHit ?_
    refine Tr.thenN ?_
    refine Tr.seq ?_
    refine Tr.region ?_
    refine Tr.val (V.loadN (cs := (keyUp 16).map U8) Try.isAgg52 Try.sizeOf52 rfl (V.cellsB (by repeat (first | exact List.Mem.head _ | apply List.Mem.tail)))) rfl ?_
    refine Tr.op (W.build (vs := [U8 97#8, U8 98#8, U8 99#8]) elem22 (fun a _ => by simp [Act.eval, List.range'_succ]) rfl (by simp [Value.cells]) (by omega) rfl fun g15 => ?_)
    refine Tr.op (W.stringish (cs := [U8 97#8, U8 98#8, U8 99#8]) Try.runUnderlying22 Try.runUnderlying5 rfl rfl (List.Perm.refl _) fun wq hq1 hr1 hg1 => ?_)
    refine Tr.op (W.call1 (args2 rfl rfl) Try.call36 rfl (fun w1 hw => by have h := sum_any (some ⟨g15, 0, none⟩) 3 3 (keyUp 16) [97#8, 98#8, 99#8] w1 (by decide) ⟨(RdP.old hr1 (fun _ h => by cases h; exact hg1)).now hw, rfl, Nat.le_refl _, by omega, fun h => by cases h⟩; rw [keyUp_tag] at h; exact h) ?_)
    refine Tr.op (W.alloc (cs := (List.replicate 16 0#8).map U8) Try.zeroValue53 rfl rfl fun g3 => ?_)
    refine Tr.op (W.storeAll (vs := [0#8, 1#8, 2#8, 3#8, 4#8, 5#8, 6#8, 7#8, 8#8, 9#8, 10#8, 11#8, 12#8, 13#8, 14#8, 15#8].map U8) (cs := (List.replicate 16 0#8).map U8) Try.sizeOf53 rfl rfl rfl rfl (one8 _) (by repeat (first | exact Upd.head | apply Upd.tail)) ?_)
    refine Tr.lNil ?_
    refine Tr.thenN ?_
    refine Tr.seq ?_
    refine Tr.region ?_
    refine Tr.val (V.idxA (j := 0) (o' := 0) Try.runUnderlying52 Try.sizeOf5 rfl rfl rfl (by omega) rfl) rfl ?_
    refine Tr.op (W.store1E (cs := (keyUp 16).map U8) (v := U8 1#8) (cs' := ((keyUp 16).set 0 1#8).map U8) Try.sizeOf5 rfl rfl rfl rfl (by rw [List.map_set]) (by repeat (first | exact Upd.head | apply Upd.tail)) (by decide) ?_)
    refine Tr.lNil ?_
    refine Tr.thenN ?_
    refine Tr.seq ?_
    refine Tr.region ?_
    refine Tr.val (V.loadN (cs := ((keyUp 16).set 0 1#8).map U8) Try.isAgg52 Try.sizeOf52 rfl (V.cellsB (by repeat (first | exact List.Mem.head _ | apply List.Mem.tail)))) rfl ?_
    refine Tr.op (W.build (vs := [U8 1#8]) elem22 (fun a _ => by simp [Act.eval, List.range'_succ]) rfl (by simp [Value.cells]) (by omega) rfl fun g20 => ?_)
    refine Tr.op (W.call1 (args2 rfl rfl) Try.call36 rfl (fun w1 hw => by have h := sum_any (some ⟨g20, 0, none⟩) 1 1 ((keyUp 16).set 0 1#8) [1#8] w1 (by decide) ⟨(RdP.all (List.Mem.head _)).now hw, rfl, Nat.le_refl _, by omega, fun h => by cases h⟩; rw [keyUp_tag1] at h; exact h) ?_)
    refine Tr.op (W.alloc (cs := (List.replicate 16 0#8).map U8) Try.zeroValue53 rfl rfl fun g4 => ?_)
    refine Tr.op (W.storeAll (vs := [1#8, 2#8, 2#8, 3#8, 4#8, 5#8, 6#8, 7#8, 8#8, 9#8, 10#8, 11#8, 12#8, 13#8, 14#8, 15#8].map U8) (cs := (List.replicate 16 0#8).map U8) Try.sizeOf53 rfl rfl rfl rfl (one8 _) (by repeat (first | exact Upd.head | apply Upd.tail)) ?_)
    refine Tr.lNil ?_
    refine Tr.thenN ?_
    refine Tr.seq ?_
    refine Tr.region ?_
    refine Tr.val (V.idxA (j := 0) (o' := 0) Try.runUnderlying53 Try.sizeOf5 rfl rfl rfl (by omega) rfl) rfl ?_
    refine Tr.val (V.load1 Try.isAgg5 rfl (V.cellB (by repeat (first | exact List.Mem.head _ | apply List.Mem.tail)) (show ([0#8, 1#8, 2#8, 3#8, 4#8, 5#8, 6#8, 7#8, 8#8, 9#8, 10#8, 11#8, 12#8, 13#8, 14#8, 15#8].map U8)[0]? = some (U8 _) from rfl))) rfl ?_
    refine Tr.val (V.eql8 (Y := 0#8) (b := true) rfl rfl (by decide)) rfl ?_
    refine Tr.val (V.move rfl) rfl ?_
    refine Tr.valG rfl (V.idxA (j := 15) (o' := 15) Try.runUnderlying53 Try.sizeOf5 rfl rfl rfl (by omega) rfl) rfl ?_
    refine Tr.valG rfl (V.load1 Try.isAgg5 rfl (V.cellB (by repeat (first | exact List.Mem.head _ | apply List.Mem.tail)) (show ([0#8, 1#8, 2#8, 3#8, 4#8, 5#8, 6#8, 7#8, 8#8, 9#8, 10#8, 11#8, 12#8, 13#8, 14#8, 15#8].map U8)[15]? = some (U8 _) from rfl))) rfl ?_
    refine Tr.valG rfl (V.eql8 (Y := 15#8) (b := true) rfl rfl (by decide)) rfl ?_
    refine Tr.val (V.pick rfl rfl) rfl ?_
    refine Tr.val (V.move rfl) rfl ?_
    refine Tr.valG rfl (V.idxA (j := 0) (o' := 0) Try.runUnderlying53 Try.sizeOf5 rfl rfl rfl (by omega) rfl) rfl ?_
    refine Tr.valG rfl (V.load1 Try.isAgg5 rfl (V.cellB (by repeat (first | exact List.Mem.head _ | apply List.Mem.tail)) (show ([1#8, 2#8, 2#8, 3#8, 4#8, 5#8, 6#8, 7#8, 8#8, 9#8, 10#8, 11#8, 12#8, 13#8, 14#8, 15#8].map U8)[0]? = some (U8 _) from rfl))) rfl ?_
    refine Tr.valG rfl (V.eql8 (Y := 1#8) (b := true) rfl rfl (by decide)) rfl ?_
    refine Tr.val (V.pick rfl rfl) rfl ?_
    refine Tr.val (V.move rfl) rfl ?_
    refine Tr.valG rfl (V.idxA (j := 1) (o' := 1) Try.runUnderlying53 Try.sizeOf5 rfl rfl rfl (by omega) rfl) rfl ?_
    refine Tr.valG rfl (V.load1 Try.isAgg5 rfl (V.cellB (by repeat (first | exact List.Mem.head _ | apply List.Mem.tail)) (show ([1#8, 2#8, 2#8, 3#8, 4#8, 5#8, 6#8, 7#8, 8#8, 9#8, 10#8, 11#8, 12#8, 13#8, 14#8, 15#8].map U8)[1]? = some (U8 _) from rfl))) rfl ?_
    refine Tr.valG rfl (V.eql8 (Y := 2#8) (b := true) rfl rfl (by decide)) rfl ?_
    refine Tr.val (V.pick rfl rfl) rfl ?_
    refine Tr.val (V.move rfl) rfl ?_
    refine Tr.valG rfl (V.idxA (j := 15) (o' := 15) Try.runUnderlying53 Try.sizeOf5 rfl rfl rfl (by omega) rfl) rfl ?_
    refine Tr.valG rfl (V.load1 Try.isAgg5 rfl (V.cellB (by repeat (first | exact List.Mem.head _ | apply List.Mem.tail)) (show ([1#8, 2#8, 2#8, 3#8, 4#8, 5#8, 6#8, 7#8, 8#8, 9#8, 10#8, 11#8, 12#8, 13#8, 14#8, 15#8].map U8)[15]? = some (U8 _) from rfl))) rfl ?_
    refine Tr.valG rfl (V.eql8 (Y := 15#8) (b := true) rfl rfl (by decide)) rfl ?_
    refine Tr.val (V.pick rfl rfl) rfl ?_
    refine Tr.val (V.assign rfl) rfl ?_
    refine Tr.lNil ?_
    refine Tr.thenN ?_
    refine Tr.ret ?_
    refine Tr.out1 rfl (Res.tmp rfl) fun w hw => ?_
    exact ⟨rfl, (hq1.trans hw).sub (List.nil_sublist _)⟩

end Go.Proofs.Ytnhfmmohdiccgaa
