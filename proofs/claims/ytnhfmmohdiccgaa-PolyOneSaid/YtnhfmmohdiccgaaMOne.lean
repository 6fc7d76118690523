/-
  hatchwaylaw03.PolyOne returns true, whatever its arguments. (Printed by a program of this session over its walk printer.)
-/
import Derived.Test.YtnhfmmohdiccgaaRows
import Derived.Test.YtnhfmmohdiccgaaLaw3
namespace Go.Proofs.Ytnhfmmohdiccgaa
open Go.Sym Plain
set_option linter.unusedVariables false

set_option maxRecDepth 20000 in
theorem polyOne_run (X Y Z : BitVec 64) (w : World) : Calls Try.prog 16 [U64 X, U64 Y, U64 Z].toArray w fun r w' => r = .returned (.bool true) ∧ Hp w [] [] w' := by
  obtain ⟨key, hkey⟩ : ∃ key, key = (1#8 :: List.replicate 31 0#8) := ⟨_, rfl⟩
  have hk : key.length = 32 := by rw [hkey]; rfl
  obtain ⟨s0, hs0d⟩ : ∃ s, s = ([] : List (BitVec 8)) := ⟨_, rfl⟩
  obtain ⟨s1, hs1d⟩ : ∃ s, s = s0 ++ rowW X 8 := ⟨_, rfl⟩
  obtain ⟨s2, hs2d⟩ : ∃ s, s = s1 ++ rowW Y 8 := ⟨_, rfl⟩
  obtain ⟨s3, hs3d⟩ : ∃ s, s = s2 ++ rowW Z 8 := ⟨_, rfl⟩
  have hs0 : s0.length = 0 := by rw [hs0d]; rfl
  have hs1 : s1.length = 16 := by rw [hs1d, List.length_append, hs0, rowW_len X 8 (by omega)]
  have hs2 : s2.length = 32 := by rw [hs2d, List.length_append, hs1, rowW_len Y 8 (by omega)]
  have hs3 : s3.length = 48 := by rw [hs3d, List.length_append, hs2, rowW_len Z 8 (by omega)]
  have hT := tag_one X Y Z
  rw [← hkey, show rowW X 8 ++ rowW Y 8 ++ rowW Z 8 = s3 by rw [hs3d, hs2d, hs1d, hs0d]; rfl] at hT
  have hhigh := one_high X Y Z
  refine Tr.enter Try.func16 rfl Try.ntmps16 rfl (Hp.refl w) ?_
  refine Tr.seq ?_
  refine Tr.region ?_
  refine Tr.val (V.assign rfl) rfl ?_
  refine Tr.lNil ?_
  refine Tr.thenN ?_
  refine Tr.seq ?_
  refine Tr.region ?_
  refine Tr.op (W.call1 (args0) Try.call35 rfl (fun w1 _ => shown3_true w1) ?_)
  refine Tr.val (V.assign rfl) rfl ?_
  refine Tr.lNil ?_
  refine Tr.thenN ?_
  refine Tr.seq ?_
  refine Tr.region ?_
  refine Tr.op (W.alloc (cs := (List.replicate 32 0#8).map U8) Try.zeroValue52 rfl rfl fun g8 => ?_)
  refine Tr.lNil ?_
  refine Tr.thenN ?_
  refine Tr.seq ?_
  refine Tr.region ?_
  refine Tr.val (V.idxA (j := 0) (o' := 0) Try.runUnderlying52 Try.sizeOf5 rfl rfl rfl (by omega) rfl) rfl ?_
  refine Tr.op (W.store1E (cs := (List.replicate 32 0#8).map U8) (v := U8 1#8) (cs' := key.map U8) Try.sizeOf5 rfl rfl rfl rfl (by rw [hkey]; rfl) (by repeat (first | exact Upd.head | apply Upd.tail)) (by decide) ?_)
  refine Tr.lNil ?_
  refine Tr.thenN ?_
  refine Tr.seq ?_
  refine Tr.region ?_
  refine Tr.val (V.assign rfl) rfl ?_
  refine Tr.lNil ?_
  refine Tr.thenN ?_
  refine Tr.seq ?_
  refine Tr.seq ?_
  refine Tr.region ?_
  refine Tr.val (V.assign rfl) rfl ?_
  refine Tr.lNil ?_
  refine Tr.thenN ?_
  refine Tr.block ?_
  refine Tr.loop (ι := Nat × Row) (fun x => x.1 ≤ 8 ∧ x.2.ok ((s0 ++ putL X x.1).map U8)) (fun x => [(0, U64 X), (1, U64 Y), (2, U64 Z), (7, .bool true), (8, .pointer (some ⟨g8, 0, none⟩)), (9, x.2.val (0 + x.1)), (10, .int .i64 (x.1 : Int))]) (fun x => x.2.blk 5 ((s0 ++ putL X x.1).map U8) ++ [⟨g8, 52, key.map U8⟩]) (fun x => 8 - x.1) (0, none) ⟨Nat.zero_le _, by rw [hs0d]; rfl⟩ (lk_cons rfl (lk_cons rfl (lk_cons rfl (lk_cons rfl (lk_cons rfl (lk_cons rfl (lk_cons rfl (lk_nil _)))))))) (List.Sublist.refl _) fun x hI => ?_
  obtain ⟨j, o⟩ := x
  obtain ⟨hj8, hok⟩ := hI
  simp only at hj8 hok ⊢
  refine Tr.seq ?_
  refine Tr.seq ?_
  refine Tr.region ?_
  refine Tr.val (V.move rfl) rfl ?_
  refine Tr.val (V.lss rfl rfl rfl) rfl ?_
  refine Tr.lNil ?_
  refine Tr.thenN ?_
  refine Tr.cond rfl (fun hT0 => ?_) (fun hF0 => ?_)
  · simp only [decide_eq_true_eq] at hT0
    have hlt : j < 8 := by omega
    refine Tr.skip ?_
    refine Tr.thenN ?_
    refine Tr.seq ?_
    refine Tr.block ?_
    refine Tr.region ?_
    refine Tr.val (V.move rfl) rfl ?_
    refine Tr.val (V.move rfl) rfl ?_
    refine Tr.val (V.move rfl) rfl ?_
    refine Tr.val (V.mulN (a := 8) rfl rfl (by omega)) rfl ?_
    refine Tr.val (V.convN_64 Try.runUnderlying3 Try.runUnderlying32 rfl (by omega) (by omega)) rfl ?_
    refine Tr.val (V.shr64 (s := 8 * j) rfl rfl) rfl ?_
    refine Tr.val (V.conv64_8 Try.runUnderlying23 Try.runUnderlying5 rfl) rfl ?_
    refine Tr.op (W.build (vs := [U8 ((X >>> (8 * j)).setWidth 8)]) elem22 (W.parts1 rfl) rfl (by simp [Value.cells]) (by omega) rfl fun g31 => ?_)
    refine Tr.op (W.appendO (o := o) (m := 0 + j) (xs := (s0 ++ putL X j).map U8) (vs := [U8 ((X >>> (8 * j)).setWidth 8)]) (R := [⟨g31, 5, [U8 ((X >>> (8 * j)).setWidth 8)]⟩, ⟨g8, 52, key.map U8⟩]) elem22 rfl rfl (RdP.blk (cs := [U8 ((X >>> (8 * j)).setWidth 8)]) (List.Mem.head _) 0 1) rfl (by simp [Value.oneCell']) (.inl (by omega)) hok (by rw [List.length_map, List.length_append, putL_len, hs0]) (List.perm_middle.symm) (by omega) (by omega) rfl fun o1 ho1 hok1 => ?_)
    rw [app_putL s0 X j] at hok1 ⊢
    refine Tr.val (V.assign rfl) rfl ?_
    refine Tr.lNil ?_
    refine Tr.inN ?_
    refine Tr.thenN ?_
    refine Tr.region ?_
    refine Tr.val (V.move rfl) rfl ?_
    refine Tr.val (V.add rfl rfl (by omega)) rfl ?_
    refine Tr.val (V.assign rfl) rfl ?_
    refine Tr.lNil ?_
    exact Tr.again (j + 1, o1) ⟨by simp only; omega, hok1⟩ (by simp only; omega) (lk_cons rfl (lk_cons rfl (lk_cons rfl (lk_cons rfl (lk_cons rfl (lk_cons rfl (lk_cons rfl (lk_nil _)))))))) (List.Sublist.append (List.Sublist.refl _) (List.sublist_cons_self _ _))
  · simp only [decide_eq_false_iff_not] at hF0
    obtain rfl : j = 8 := by omega
    obtain ⟨g, c, junk, rfl⟩ := some_row hok (by rw [List.length_map, List.length_append, putL_len]; omega)
    refine Tr.exit ?_
    refine Tr.thenX ?_
    refine Tr.thenX ?_
    refine Tr.inHit ?_
    refine Tr.thenN ?_
    refine Tr.seq ?_
    refine Tr.region ?_
    refine Tr.val (V.move rfl) rfl ?_
    refine Tr.op (W.appendZ (m := 8) (k := 8) (xs := (s0 ++ putL X 8).map U8) (junk := junk) (L' := fun y => [y, ⟨g8, 52, key.map U8⟩]) elem22 Try.underlying3 rfl rfl rfl rfl (fun y => .head) (by rw [List.length_map, List.length_append, putL_len, hs0]) hok (by omega) (by omega) (by omega) rfl fun g' c' junk' hc' => ?_)
    rw [app_zeros s0 X s1 hs1d] at hc' ⊢
    refine Tr.val (V.assign rfl) rfl ?_
    refine Tr.lNil ?_
    refine Tr.thenN ?_
    refine Tr.seq ?_
    refine Tr.seq ?_
    refine Tr.region ?_
    refine Tr.val (V.assign rfl) rfl ?_
    refine Tr.lNil ?_
    refine Tr.thenN ?_
    refine Tr.block ?_
    refine Tr.loop (ι := Nat × Row) (fun x => x.1 ≤ 8 ∧ x.2.ok ((s1 ++ putL Y x.1).map U8)) (fun x => [(0, U64 X), (1, U64 Y), (2, U64 Z), (7, .bool true), (8, .pointer (some ⟨g8, 0, none⟩)), (9, x.2.val (16 + x.1)), (11, .int .i64 (x.1 : Int))]) (fun x => x.2.blk 5 ((s1 ++ putL Y x.1).map U8) ++ [⟨g8, 52, key.map U8⟩]) (fun x => 8 - x.1) (0, some (g', c', junk')) ⟨Nat.zero_le _, by rw [show putL Y 0 = [] from rfl, List.append_nil]; exact hc'⟩ (lk_cons rfl (lk_cons rfl (lk_cons rfl (lk_cons rfl (lk_cons rfl (lk_cons rfl (lk_cons rfl (lk_nil _)))))))) (by rw [show s1 ++ putL Y 0 = s1 from List.append_nil s1]; exact List.Sublist.refl _) fun x hI => ?_
    obtain ⟨j, o⟩ := x
    obtain ⟨hj8, hok⟩ := hI
    simp only at hj8 hok ⊢
    refine Tr.seq ?_
    refine Tr.seq ?_
    refine Tr.region ?_
    refine Tr.val (V.move rfl) rfl ?_
    refine Tr.val (V.lss rfl rfl rfl) rfl ?_
    refine Tr.lNil ?_
    refine Tr.thenN ?_
    refine Tr.cond rfl (fun hT1 => ?_) (fun hF1 => ?_)
    · simp only [decide_eq_true_eq] at hT1
      have hlt : j < 8 := by omega
      refine Tr.skip ?_
      refine Tr.thenN ?_
      refine Tr.seq ?_
      refine Tr.block ?_
      refine Tr.region ?_
      refine Tr.val (V.move rfl) rfl ?_
      refine Tr.val (V.move rfl) rfl ?_
      refine Tr.val (V.move rfl) rfl ?_
      refine Tr.val (V.mulN (a := 8) rfl rfl (by omega)) rfl ?_
      refine Tr.val (V.convN_64 Try.runUnderlying3 Try.runUnderlying32 rfl (by omega) (by omega)) rfl ?_
      refine Tr.val (V.shr64 (s := 8 * j) rfl rfl) rfl ?_
      refine Tr.val (V.conv64_8 Try.runUnderlying23 Try.runUnderlying5 rfl) rfl ?_
      refine Tr.op (W.build (vs := [U8 ((Y >>> (8 * j)).setWidth 8)]) elem22 (W.parts1 rfl) rfl (by simp [Value.cells]) (by omega) rfl fun g46 => ?_)
      refine Tr.op (W.appendO (o := o) (m := 16 + j) (xs := (s1 ++ putL Y j).map U8) (vs := [U8 ((Y >>> (8 * j)).setWidth 8)]) (R := [⟨g46, 5, [U8 ((Y >>> (8 * j)).setWidth 8)]⟩, ⟨g8, 52, key.map U8⟩]) elem22 rfl rfl (RdP.blk (cs := [U8 ((Y >>> (8 * j)).setWidth 8)]) (List.Mem.head _) 0 1) rfl (by simp [Value.oneCell']) (.inl (by omega)) hok (by rw [List.length_map, List.length_append, putL_len, hs1]) (List.perm_middle.symm) (by omega) (by omega) rfl fun o1 ho1 hok1 => ?_)
      rw [app_putL s1 Y j] at hok1 ⊢
      refine Tr.val (V.assign rfl) rfl ?_
      refine Tr.lNil ?_
      refine Tr.inN ?_
      refine Tr.thenN ?_
      refine Tr.region ?_
      refine Tr.val (V.move rfl) rfl ?_
      refine Tr.val (V.add rfl rfl (by omega)) rfl ?_
      refine Tr.val (V.assign rfl) rfl ?_
      refine Tr.lNil ?_
      exact Tr.again (j + 1, o1) ⟨by simp only; omega, hok1⟩ (by simp only; omega) (lk_cons rfl (lk_cons rfl (lk_cons rfl (lk_cons rfl (lk_cons rfl (lk_cons rfl (lk_cons rfl (lk_nil _)))))))) (List.Sublist.append (List.Sublist.refl _) (List.sublist_cons_self _ _))
    · simp only [decide_eq_false_iff_not] at hF1
      obtain rfl : j = 8 := by omega
      obtain ⟨g, c, junk, rfl⟩ := some_row hok (by rw [List.length_map, List.length_append, putL_len]; omega)
      refine Tr.exit ?_
      refine Tr.thenX ?_
      refine Tr.thenX ?_
      refine Tr.inHit ?_
      refine Tr.thenN ?_
      refine Tr.seq ?_
      refine Tr.region ?_
      refine Tr.val (V.move rfl) rfl ?_
      refine Tr.op (W.appendZ (m := 24) (k := 8) (xs := (s1 ++ putL Y 8).map U8) (junk := junk) (L' := fun y => [y, ⟨g8, 52, key.map U8⟩]) elem22 Try.underlying3 rfl rfl rfl rfl (fun y => .head) (by rw [List.length_map, List.length_append, putL_len, hs1]) hok (by omega) (by omega) (by omega) rfl fun g' c' junk' hc' => ?_)
      rw [app_zeros s1 Y s2 hs2d] at hc' ⊢
      refine Tr.val (V.assign rfl) rfl ?_
      refine Tr.lNil ?_
      refine Tr.thenN ?_
      refine Tr.seq ?_
      refine Tr.seq ?_
      refine Tr.region ?_
      refine Tr.val (V.assign rfl) rfl ?_
      refine Tr.lNil ?_
      refine Tr.thenN ?_
      refine Tr.block ?_
      refine Tr.loop (ι := Nat × Row) (fun x => x.1 ≤ 8 ∧ x.2.ok ((s2 ++ putL Z x.1).map U8)) (fun x => [(0, U64 X), (1, U64 Y), (2, U64 Z), (7, .bool true), (8, .pointer (some ⟨g8, 0, none⟩)), (9, x.2.val (32 + x.1)), (12, .int .i64 (x.1 : Int))]) (fun x => x.2.blk 5 ((s2 ++ putL Z x.1).map U8) ++ [⟨g8, 52, key.map U8⟩]) (fun x => 8 - x.1) (0, some (g', c', junk')) ⟨Nat.zero_le _, by rw [show putL Z 0 = [] from rfl, List.append_nil]; exact hc'⟩ (lk_cons rfl (lk_cons rfl (lk_cons rfl (lk_cons rfl (lk_cons rfl (lk_cons rfl (lk_cons rfl (lk_nil _)))))))) (by rw [show s2 ++ putL Z 0 = s2 from List.append_nil s2]; exact List.Sublist.refl _) fun x hI => ?_
      obtain ⟨j, o⟩ := x
      obtain ⟨hj8, hok⟩ := hI
      simp only at hj8 hok ⊢
      refine Tr.seq ?_
      refine Tr.seq ?_
      refine Tr.region ?_
      refine Tr.val (V.move rfl) rfl ?_
      refine Tr.val (V.lss rfl rfl rfl) rfl ?_
      refine Tr.lNil ?_
      refine Tr.thenN ?_
      refine Tr.cond rfl (fun hT2 => ?_) (fun hF2 => ?_)
      · simp only [decide_eq_true_eq] at hT2
        have hlt : j < 8 := by omega
        refine Tr.skip ?_
        refine Tr.thenN ?_
        refine Tr.seq ?_
        refine Tr.block ?_
        refine Tr.region ?_
        refine Tr.val (V.move rfl) rfl ?_
        refine Tr.val (V.move rfl) rfl ?_
        refine Tr.val (V.move rfl) rfl ?_
        refine Tr.val (V.mulN (a := 8) rfl rfl (by omega)) rfl ?_
        refine Tr.val (V.convN_64 Try.runUnderlying3 Try.runUnderlying32 rfl (by omega) (by omega)) rfl ?_
        refine Tr.val (V.shr64 (s := 8 * j) rfl rfl) rfl ?_
        refine Tr.val (V.conv64_8 Try.runUnderlying23 Try.runUnderlying5 rfl) rfl ?_
        refine Tr.op (W.build (vs := [U8 ((Z >>> (8 * j)).setWidth 8)]) elem22 (W.parts1 rfl) rfl (by simp [Value.cells]) (by omega) rfl fun g61 => ?_)
        refine Tr.op (W.appendO (o := o) (m := 32 + j) (xs := (s2 ++ putL Z j).map U8) (vs := [U8 ((Z >>> (8 * j)).setWidth 8)]) (R := [⟨g61, 5, [U8 ((Z >>> (8 * j)).setWidth 8)]⟩, ⟨g8, 52, key.map U8⟩]) elem22 rfl rfl (RdP.blk (cs := [U8 ((Z >>> (8 * j)).setWidth 8)]) (List.Mem.head _) 0 1) rfl (by simp [Value.oneCell']) (.inl (by omega)) hok (by rw [List.length_map, List.length_append, putL_len, hs2]) (List.perm_middle.symm) (by omega) (by omega) rfl fun o1 ho1 hok1 => ?_)
        rw [app_putL s2 Z j] at hok1 ⊢
        refine Tr.val (V.assign rfl) rfl ?_
        refine Tr.lNil ?_
        refine Tr.inN ?_
        refine Tr.thenN ?_
        refine Tr.region ?_
        refine Tr.val (V.move rfl) rfl ?_
        refine Tr.val (V.add rfl rfl (by omega)) rfl ?_
        refine Tr.val (V.assign rfl) rfl ?_
        refine Tr.lNil ?_
        exact Tr.again (j + 1, o1) ⟨by simp only; omega, hok1⟩ (by simp only; omega) (lk_cons rfl (lk_cons rfl (lk_cons rfl (lk_cons rfl (lk_cons rfl (lk_cons rfl (lk_cons rfl (lk_nil _)))))))) (List.Sublist.append (List.Sublist.refl _) (List.sublist_cons_self _ _))
      · simp only [decide_eq_false_iff_not] at hF2
        obtain rfl : j = 8 := by omega
        obtain ⟨g, c, junk, rfl⟩ := some_row hok (by rw [List.length_map, List.length_append, putL_len]; omega)
        refine Tr.exit ?_
        refine Tr.thenX ?_
        refine Tr.thenX ?_
        refine Tr.inHit ?_
        refine Tr.thenN ?_
        refine Tr.seq ?_
        refine Tr.region ?_
        refine Tr.val (V.move rfl) rfl ?_
        refine Tr.op (W.appendZ (m := 40) (k := 8) (xs := (s2 ++ putL Z 8).map U8) (junk := junk) (L' := fun y => [y, ⟨g8, 52, key.map U8⟩]) elem22 Try.underlying3 rfl rfl rfl rfl (fun y => .head) (by rw [List.length_map, List.length_append, putL_len, hs2]) hok (by omega) (by omega) (by omega) rfl fun g' c' junk' hc' => ?_)
        rw [app_zeros s2 Z s3 hs3d] at hc' ⊢
        refine Tr.val (V.assign rfl) rfl ?_
        refine Tr.lNil ?_
        refine Tr.thenN ?_
        refine Tr.seq ?_
        refine Tr.region ?_
        refine Tr.val (V.loadN (cs := key.map U8) Try.isAgg52 (by rw [List.length_map, hk]; exact Try.sizeOf52) rfl (V.cellsB (by repeat (first | exact List.Mem.head _ | apply List.Mem.tail)))) rfl ?_
        refine Tr.val (V.move rfl) rfl ?_
        refine Tr.op (W.call1 (args2 rfl rfl) Try.call36 rfl (fun w1 hw => by have h := sum_any (some ⟨g', 0, none⟩) 48 c' key s3 w1 hk ⟨(RdP.headL (xs := s3.map U8) (junk := junk') (List.Mem.head _)).now hw, hs3, by rw [List.length_append, List.length_map, hs3] at hc'; omega, by omega, fun h => by cases h⟩; rw [hT] at h; exact h) ?_)
        refine Tr.op (W.call1 (args1 rfl) Try.call38 rfl (fun w1 hw => by have h := number_any (tagB (X.toNat + Y.toNat + Z.toNat + 1020847100762815390390123822295304634368)) w1 (tagB_len _); rw [tag_low, tag_high] at h; exact h) ?_)
        refine Tr.val (V.move rfl) rfl ?_
        refine Tr.val (V.extract rfl rfl) rfl ?_
        refine Tr.val (V.extract rfl rfl) rfl ?_
        refine Tr.val (V.assign rfl) rfl ?_
        refine Tr.val (V.assign rfl) rfl ?_
        refine Tr.lNil ?_
        refine Tr.thenN ?_
        refine Tr.seq ?_
        refine Tr.region ?_
        refine Tr.val (V.move rfl) rfl ?_
        refine Tr.val (V.move rfl) rfl ?_
        refine Tr.val (V.add64 rfl rfl) rfl ?_
        refine Tr.val (V.assign rfl) rfl ?_
        refine Tr.lNil ?_
        refine Tr.thenN ?_
        refine Tr.seq ?_
        refine Tr.region ?_
        refine Tr.val (V.assign (v := U64 0#64) rfl) rfl ?_
        refine Tr.lNil ?_
        refine Tr.thenN ?_
        refine Tr.seq ?_
        refine Tr.seq ?_
        refine Tr.region ?_
        refine Tr.val (V.move rfl) rfl ?_
        refine Tr.val (V.move rfl) rfl ?_
        refine Tr.val (V.lss64 rfl rfl rfl) rfl ?_
        refine Tr.lNil ?_
        refine Tr.thenN ?_
        refine Tr.cond rfl (fun hT3 => ?_) (fun hF3 => ?_)
        · simp only [decide_eq_true_eq] at hT3
          rw [if_pos hT3] at hhigh
          refine Tr.region ?_
          refine Tr.val (V.assign (v := U64 1#64) rfl) rfl ?_
          refine Tr.lNil ?_
          refine Tr.thenN ?_
          refine Tr.seq ?_
          refine Tr.region ?_
          refine Tr.val (V.move rfl) rfl ?_
          refine Tr.val (V.move rfl) rfl ?_
          refine Tr.val (V.add64 rfl rfl) rfl ?_
          refine Tr.val (V.assign rfl) rfl ?_
          refine Tr.lNil ?_
          refine Tr.thenN ?_
          refine Tr.seq ?_
          refine Tr.seq ?_
          refine Tr.region ?_
          refine Tr.val (V.move rfl) rfl ?_
          refine Tr.val (V.move rfl) rfl ?_
          refine Tr.val (V.lss64 rfl rfl rfl) rfl ?_
          refine Tr.lNil ?_
          refine Tr.thenN ?_
          refine Tr.cond rfl (fun hT4 => ?_) (fun hF4 => ?_)
          · simp only [decide_eq_true_eq] at hT4
            rw [if_pos hT4] at hhigh
            refine Tr.region ?_
            refine Tr.val (V.move rfl) rfl ?_
            refine Tr.val (V.add64 (Y := 1#64) rfl rfl) rfl ?_
            refine Tr.val (V.assign rfl) rfl ?_
            refine Tr.lNil ?_
            refine Tr.thenN ?_
            refine Tr.seq ?_
            refine Tr.region ?_
            refine Tr.val (V.move rfl) rfl ?_
            refine Tr.val (V.move rfl) rfl ?_
            refine Tr.valG rfl (V.move rfl) rfl ?_
            refine Tr.valG rfl (V.move rfl) rfl ?_
            refine Tr.valG rfl (V.eql64 (b := true) rfl rfl (decide_eq_true (one_low X Y Z))) rfl ?_
            refine Tr.val (V.pick rfl rfl) rfl ?_
            refine Tr.val (V.move rfl) rfl ?_
            refine Tr.valG rfl (V.move rfl) rfl ?_
            refine Tr.valG rfl (V.move rfl) rfl ?_
            refine Tr.valG rfl (V.eql64 (b := true) rfl rfl (decide_eq_true hhigh)) rfl ?_
            refine Tr.val (V.pick rfl rfl) rfl ?_
            refine Tr.val (V.assign rfl) rfl ?_
            refine Tr.lNil ?_
            refine Tr.thenN ?_
            refine Tr.ret ?_
            refine Tr.out1 rfl (Res.tmp rfl) fun w hw => ?_
            exact ⟨rfl, hw.sub (List.nil_sublist _)⟩
          · simp only [decide_eq_false_iff_not] at hF4
            rw [if_neg hF4] at hhigh
            refine Tr.skip ?_
            refine Tr.thenN ?_
            refine Tr.seq ?_
            refine Tr.region ?_
            refine Tr.val (V.move rfl) rfl ?_
            refine Tr.val (V.move rfl) rfl ?_
            refine Tr.valG rfl (V.move rfl) rfl ?_
            refine Tr.valG rfl (V.move rfl) rfl ?_
            refine Tr.valG rfl (V.eql64 (b := true) rfl rfl (decide_eq_true (one_low X Y Z))) rfl ?_
            refine Tr.val (V.pick rfl rfl) rfl ?_
            refine Tr.val (V.move rfl) rfl ?_
            refine Tr.valG rfl (V.move rfl) rfl ?_
            refine Tr.valG rfl (V.move rfl) rfl ?_
            refine Tr.valG rfl (V.eql64 (b := true) rfl rfl (decide_eq_true hhigh)) rfl ?_
            refine Tr.val (V.pick rfl rfl) rfl ?_
            refine Tr.val (V.assign rfl) rfl ?_
            refine Tr.lNil ?_
            refine Tr.thenN ?_
            refine Tr.ret ?_
            refine Tr.out1 rfl (Res.tmp rfl) fun w hw => ?_
            exact ⟨rfl, hw.sub (List.nil_sublist _)⟩
        · simp only [decide_eq_false_iff_not] at hF3
          rw [if_neg hF3] at hhigh
          refine Tr.skip ?_
          refine Tr.thenN ?_
          refine Tr.seq ?_
          refine Tr.region ?_
          refine Tr.val (V.move rfl) rfl ?_
          refine Tr.val (V.move rfl) rfl ?_
          refine Tr.val (V.add64 rfl rfl) rfl ?_
          refine Tr.val (V.assign rfl) rfl ?_
          refine Tr.lNil ?_
          refine Tr.thenN ?_
          refine Tr.seq ?_
          refine Tr.seq ?_
          refine Tr.region ?_
          refine Tr.val (V.move rfl) rfl ?_
          refine Tr.val (V.move rfl) rfl ?_
          refine Tr.val (V.lss64 rfl rfl rfl) rfl ?_
          refine Tr.lNil ?_
          refine Tr.thenN ?_
          refine Tr.cond rfl (fun hT5 => ?_) (fun hF5 => ?_)
          · simp only [decide_eq_true_eq] at hT5
            rw [if_pos hT5] at hhigh
            refine Tr.region ?_
            refine Tr.val (V.move rfl) rfl ?_
            refine Tr.val (V.add64 (Y := 1#64) rfl rfl) rfl ?_
            refine Tr.val (V.assign rfl) rfl ?_
            refine Tr.lNil ?_
            refine Tr.thenN ?_
            refine Tr.seq ?_
            refine Tr.region ?_
            refine Tr.val (V.move rfl) rfl ?_
            refine Tr.val (V.move rfl) rfl ?_
            refine Tr.valG rfl (V.move rfl) rfl ?_
            refine Tr.valG rfl (V.move rfl) rfl ?_
            refine Tr.valG rfl (V.eql64 (b := true) rfl rfl (decide_eq_true (one_low X Y Z))) rfl ?_
            refine Tr.val (V.pick rfl rfl) rfl ?_
            refine Tr.val (V.move rfl) rfl ?_
            refine Tr.valG rfl (V.move rfl) rfl ?_
            refine Tr.valG rfl (V.move rfl) rfl ?_
            refine Tr.valG rfl (V.eql64 (b := true) rfl rfl (decide_eq_true hhigh)) rfl ?_
            refine Tr.val (V.pick rfl rfl) rfl ?_
            refine Tr.val (V.assign rfl) rfl ?_
            refine Tr.lNil ?_
            refine Tr.thenN ?_
            refine Tr.ret ?_
            refine Tr.out1 rfl (Res.tmp rfl) fun w hw => ?_
            exact ⟨rfl, hw.sub (List.nil_sublist _)⟩
          · simp only [decide_eq_false_iff_not] at hF5
            rw [if_neg hF5] at hhigh
            refine Tr.skip ?_
            refine Tr.thenN ?_
            refine Tr.seq ?_
            refine Tr.region ?_
            refine Tr.val (V.move rfl) rfl ?_
            refine Tr.val (V.move rfl) rfl ?_
            refine Tr.valG rfl (V.move rfl) rfl ?_
            refine Tr.valG rfl (V.move rfl) rfl ?_
            refine Tr.valG rfl (V.eql64 (b := true) rfl rfl (decide_eq_true (one_low X Y Z))) rfl ?_
            refine Tr.val (V.pick rfl rfl) rfl ?_
            refine Tr.val (V.move rfl) rfl ?_
            refine Tr.valG rfl (V.move rfl) rfl ?_
            refine Tr.valG rfl (V.move rfl) rfl ?_
            refine Tr.valG rfl (V.eql64 (b := true) rfl rfl (decide_eq_true hhigh)) rfl ?_
            refine Tr.val (V.pick rfl rfl) rfl ?_
            refine Tr.val (V.assign rfl) rfl ?_
            refine Tr.lNil ?_
            refine Tr.thenN ?_
            refine Tr.ret ?_
            refine Tr.out1 rfl (Res.tmp rfl) fun w hw => ?_
            exact ⟨rfl, hw.sub (List.nil_sublist _)⟩

theorem polyOne_walk (a0 a1 a2 : Int) (w : World) (w0 : (Lit.int .u64 a0).wf = true) (w1 : (Lit.int .u64 a1).wf = true) (w2 : (Lit.int .u64 a2).wf = true) :
    Calls Try.prog 16 #[.int .u64 a0, .int .u64 a1, .int .u64 a2] w fun r w' => r = .returned (.bool true) ∧ Hp w [] [] w' := by
  obtain ⟨X, rfl⟩ := wf64 w0
  obtain ⟨Y, rfl⟩ := wf64 w1
  obtain ⟨Z, rfl⟩ := wf64 w2
  exact polyOne_run X Y Z w
namespace polyOne
open Go.ChangeShapes Go.WideShapes Go.ChangeAt Go.RowKit Go.Sym
theorem own : ownKnob Try.prog.godebug = none := by kernel_rfl
theorem laidOut : laidOutB Try.prog = true := by kernel_rfl
set_option maxRecDepth 100000 in
theorem lifted (os : Os) (started : os.Started) (H : Type) (enc : TypeId × Value → H) :
    ReturnsInHanded {} Try.checked os 16 .any (Rows.polyOneSpec.pre6 enc Try.prog Try.f16 Rows.polyOneRow.domain false) (Rows.polyOneSpec.post enc Try.prog Try.f16 false true false false) := by
  refine returnsInHanded_of_change (C := Try.checked) own started (by kernel_rfl) Try.func16
    (ChangeSpec.witness6 (enc := enc) (C := Try.checked) false ⟨#[], #[.int .u64 0, .int .u64 0, .int .u64 0], []⟩ 8 (by kernel_rfl) (by kernel_rfl) (by kernel_rfl) (by kernel_rfl)) ?_
  intro W base args ds gs before hval0 hW hcnd _
  have hval : ∀ (j : Nat) t v, Try.f16.params[j]? = some t → args[j]? = some v → Value.okWide Try.prog W .any base t v := hval0
  have hW' := hW
  obtain ⟨p, q, hA0, hV, rfl, hfz, hnd⟩ := hW
  have hA : DataW.TrodAll enc Try.prog W 0 (fun _ => true) true Try.f16.params.toList args.toList ds p := hA0
  rw [Try.params16] at hA hval
  obtain ⟨v0, vs0, d0, ds0, p0, q0, hargs, rfl, rfl, h0, r0⟩ := trodAll_cons hA
  obtain ⟨v1, vs1, d1, ds1, p1, q1, rfl, rfl, rfl, h1, r1⟩ := trodAll_cons r0
  obtain ⟨v2, vs2, d2, ds2, p2, q2, rfl, rfl, rfl, h2, r2⟩ := trodAll_cons r1
  obtain ⟨rfl, rfl, rfl⟩ := trodAll_nil r2
  obtain rfl : args = #[v0, v1, v2] := by cases args; simp_all
  obtain ⟨rfl, rfl⟩ := trodVars_none hV
  obtain ⟨a0, rfl, rfl, rfl, w0⟩ := open_int Try.underlying23 (hval 0 23 v0 rfl rfl) h0
  obtain ⟨a1, rfl, rfl, rfl, w1⟩ := open_int Try.underlying23 (hval 1 23 v1 rfl rfl) h1
  obtain ⟨a2, rfl, rfl, rfl, w2⟩ := open_int Try.underlying23 (hval 2 23 v2 rfl rfl) h2
  clear hA0 hval0
  refine (polyOne_walk a0 a1 a2 W w0 w1 w2).mono fun e W' ⟨he, hp⟩ => ?_
  have bel : Below W.heap.size W W' := hp.below
  subst he
  exact ⟨_, rfl, _, _, _, [], _, [], hW', trodAll_mk1 (shut_bool Try.underlying4 _), (trodAll_cons_mk (shut_int Try.underlying23 w0) (trodAll_cons_mk (shut_int Try.underlying23 w1) (trodAll_cons_mk (shut_int Try.underlying23 w2) trodAll_mk0))), rfl, bel.frame _, fun h => by cases h⟩
theorem over : Rows.polyOneRow.holds Try.pinned (OpenSpec.ofChange Rows.polyOneSpec) :=
  OpenClaim.holds_of_wide 16 Try.f16 rfl rfl rfl rfl rfl rfl rfl ⟨rfl, rfl, rfl, rfl, rfl⟩ rfl rfl rfl rfl rfl (by kernel_rfl) Try.func16 (by kernel_rfl)
    (of_decide_eq_true (by kernel_rfl)) (by unfold Func.isWrapper; first | (rw [if_pos (by decide +kernel)]; kernel_rfl) | (rw [if_neg (by decide +kernel)]; exact ⟨rfl, rfl⟩))
    (fun os started H enc _ => lifted os started H enc)
end polyOne
/-- The statement. -/
theorem polyOneProved : Rows.PolyOneSaid := polyOne.over
end Go.Proofs.Ytnhfmmohdiccgaa
