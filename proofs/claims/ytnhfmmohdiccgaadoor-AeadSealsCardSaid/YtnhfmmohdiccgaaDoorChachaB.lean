/-
  Contracts of package chacha: Block, Stream. (Printed by a program of this session over its walk printer.)
-/
import Derived.Test.YtnhfmmohdiccgaaDoorChachaA
import Derived.Test.YtnhfmmohdiccgaaDoorFrame
namespace Go.Proofs.YtnhfmmohdiccgaaDoor
open Go.Sym Plain
set_option linter.unusedVariables false

set_option maxRecDepth 20000 in
theorem block_any (key : List (BitVec 8)) (ctr : BitVec 32) (nonce : List (BitVec 8)) (w : World) (hk : key.length = 32) (hn : nonce.length = 12) (hq0 : RdB w (some ⟨0, 0, none⟩) (qflat.map NV)) :
    Calls Tryd.prog 15 [.agg (key.map U8).toArray, U32 ctr, .agg (nonce.map U8).toArray].toArray w fun r w' => r = .returned (.agg ((blockL key ctr nonce).map U8).toArray) ∧ Hp w [] [] w' := by
  obtain ⟨s0, hs0⟩ : ∃ s0, s0 = firstL key ctr nonce := ⟨_, rfl⟩
  have hl0 : s0.length = 16 := by rw [hs0, firstL_len key ctr nonce hk hn]
  refine Tr.enter Tryd.func15 rfl Tryd.ntmps15 rfl (Hp.refl w) ?_
  refine Tr.seq ?_
  refine Tr.region ?_
  refine Tr.op (W.box (cs := key.map U8) rfl rfl rfl fun g3 => ?_)
  refine Tr.op (W.box (cs := nonce.map U8) rfl rfl rfl fun g5 => ?_)
  refine Tr.op (W.alloc (cs := (List.replicate 64 0#8).map U8) Tryd.zeroValue29 rfl rfl fun g6 => ?_)
  refine Tr.lNil ?_
  refine Tr.thenN ?_
  refine Tr.seq ?_
  refine Tr.region ?_
  refine Tr.val (V.loadN (cs := key.map U8) Tryd.isAgg23 (by rw [List.length_map, hk]; exact Tryd.sizeOf23) rfl (V.cellsB (by repeat (first | exact List.Mem.head _ | apply List.Mem.tail)))) rfl ?_
  refine Tr.val (V.move rfl) rfl ?_
  refine Tr.val (V.loadN (cs := nonce.map U8) Tryd.isAgg26 (by rw [List.length_map, hn]; exact Tryd.sizeOf26) rfl (V.cellsB (by repeat (first | exact List.Mem.head _ | apply List.Mem.tail)))) rfl ?_
  refine Tr.op (W.call1 (args3 rfl rfl rfl) Tryd.call23 rfl (fun w1 hw => by have h := first_any key ctr nonce w1 hk hn; rw [← hs0] at h; exact h) ?_)
  refine Tr.op (W.alloc (cs := (List.replicate 16 0#32).map U32) Tryd.zeroValue47 rfl rfl fun g7 => ?_)
  refine Tr.op (W.storeAll (vs := s0.map U32) (cs := (List.replicate 16 0#32).map U32) Tryd.sizeOf47 rfl rfl (by rw [List.length_map, hl0]) rfl (one32 _) (by repeat (first | exact Upd.head | apply Upd.tail)) ?_)
  refine Tr.lNil ?_
  refine Tr.thenN ?_
  refine Tr.seq ?_
  refine Tr.region ?_
  refine Tr.val (V.loadN (cs := s0.map U32) Tryd.isAgg47 (by rw [List.length_map, hl0]; exact Tryd.sizeOf47) rfl (V.cellsB (by repeat (first | exact List.Mem.head _ | apply List.Mem.tail)))) rfl ?_
  refine Tr.op (W.alloc (cs := (List.replicate 16 0#32).map U32) Tryd.zeroValue47 rfl rfl fun g8 => ?_)
  refine Tr.op (W.storeAll (vs := s0.map U32) (cs := (List.replicate 16 0#32).map U32) Tryd.sizeOf47 rfl rfl (by rw [List.length_map, hl0]) rfl (one32 _) (by repeat (first | exact Upd.head | apply Upd.tail)) ?_)
  refine Tr.lNil ?_
  refine Tr.thenN ?_
  refine Tr.seq ?_
  refine Tr.seq ?_
  refine Tr.region ?_
  refine Tr.val (V.move rfl) rfl ?_
  refine Tr.lNil ?_
  refine Tr.thenN ?_
  refine Tr.block ?_
  refine Tr.loop (ι := Nat) (fun i => i ≤ 10) (fun i => [(6, .pointer (some ⟨g6, 0, none⟩)), (7, .pointer (some ⟨g7, 0, none⟩)), (8, .pointer (some ⟨g8, 0, none⟩)), (18, NV i)]) (fun i => [⟨g8, 47, s0.map U32⟩, ⟨g7, 47, (roundsTo s0 i).map U32⟩, ⟨g6, 29, (List.replicate 64 0#8).map U8⟩, ⟨g5, 26, nonce.map U8⟩, ⟨g3, 23, key.map U8⟩]) (fun i => 10 - i) 0 (Nat.zero_le _) (lk_cons rfl (lk_cons rfl (lk_cons rfl (lk_cons rfl (lk_nil _))))) (List.Sublist.refl _) fun i hI => ?_
  refine Tr.seq ?_
  refine Tr.region ?_
  refine Tr.val (V.lss rfl rfl rfl) rfl ?_
  refine Tr.lNil ?_
  refine Tr.thenN ?_
  refine Tr.seq ?_
  refine Tr.cond rfl (fun hT0 => ?_) (fun hF0 => ?_)
  · simp only [decide_eq_true_eq] at hT0
    have hlt : i < 10 := by omega
    refine Tr.skip ?_
    refine Tr.thenN ?_
    refine Tr.seq ?_
    refine Tr.block ?_
    refine Tr.seq ?_
    refine Tr.region ?_
    refine Tr.val (V.loadN (cs := qflat.map NV) Tryd.isAgg50 Tryd.sizeOf50 rfl (fun w1 hw j v hj => (RdP.old hq0 (fun _ _ => by simp) w1 hw j v hj).2)) rfl ?_
    refine Tr.val (V.move rfl) rfl ?_
    refine Tr.lNil ?_
    refine Tr.thenN ?_
    refine Tr.block ?_
    refine Tr.loop (ι := Nat) (fun k => k ≤ 8) (fun k => [(6, .pointer (some ⟨g6, 0, none⟩)), (7, .pointer (some ⟨g7, 0, none⟩)), (8, .pointer (some ⟨g8, 0, none⟩)), (18, NV i), (20, .agg (qflat.map NV).toArray), (21, NV k)]) (fun k => [⟨g8, 47, s0.map U32⟩, ⟨g7, 47, (turnTo (roundsTo s0 i) k).map U32⟩, ⟨g6, 29, (List.replicate 64 0#8).map U8⟩, ⟨g5, 26, nonce.map U8⟩, ⟨g3, 23, key.map U8⟩]) (fun k => 8 - k) 0 (Nat.zero_le _) (lk_cons rfl (lk_cons rfl (lk_cons rfl (lk_cons rfl (lk_cons rfl (lk_cons rfl (lk_nil _))))))) (List.Sublist.refl _) fun k hI => ?_
    refine Tr.seq ?_
    refine Tr.region ?_
    refine Tr.val (V.lss rfl rfl rfl) rfl ?_
    refine Tr.lNil ?_
    refine Tr.thenN ?_
    refine Tr.seq ?_
    refine Tr.cond rfl (fun hT1 => ?_) (fun hF1 => ?_)
    · simp only [decide_eq_true_eq] at hT1
      have hlt : k < 8 := by omega
      have h4 := qAt_lt k hlt
      have hqk : ((qflat.map NV).drop (k * 4)).take 4 = [(qAt k).1, (qAt k).2.1, (qAt k).2.2.1, (qAt k).2.2.2].map NV := by rw [← List.map_drop, ← List.map_take, qflat_at k hlt]
      refine Tr.skip ?_
      refine Tr.thenN ?_
      refine Tr.seq ?_
      refine Tr.block ?_
      refine Tr.seq ?_
      refine Tr.region ?_
      refine Tr.val ((by rw [← hqk]; exact V.indexN (cs := qflat.map NV) (j := k) (sz := 4) Tryd.runUnderlying50 Tryd.sizeOf49 Tryd.isAgg49 rfl rfl rfl (by omega) : VOp Tryd.prog _ _ _ _ _ _ _ (.agg ([(qAt k).1, (qAt k).2.1, (qAt k).2.2.1, (qAt k).2.2.2].map NV).toArray))) rfl ?_
      refine Tr.op (W.alloc (cs := [NV 0, NV 0, NV 0, NV 0]) Tryd.zeroValue49 rfl rfl fun g10 => ?_)
      refine Tr.op (W.storeAll (vs := [(qAt k).1, (qAt k).2.1, (qAt k).2.2.1, (qAt k).2.2.2].map NV) (cs := [NV 0, NV 0, NV 0, NV 0]) Tryd.sizeOf49 rfl rfl rfl rfl (oneN _) (by repeat (first | exact Upd.head | apply Upd.tail)) ?_)
      refine Tr.lNil ?_
      refine Tr.thenN ?_
      refine Tr.region ?_
      refine Tr.val (V.loadN (cs := [(qAt k).1, (qAt k).2.1, (qAt k).2.2.1, (qAt k).2.2.2].map NV) Tryd.isAgg49 Tryd.sizeOf49 rfl (V.cellsB (by repeat (first | exact List.Mem.head _ | apply List.Mem.tail)))) rfl ?_
      refine Tr.op (W.callM (x := ⟨g7, 47, (turnTo (roundsTo s0 i) k).map U32⟩) (y := ⟨g7, 47, (turnTo (roundsTo s0 i) (k + 1)).map U32⟩)  (args2 rfl rfl) Tryd.call24 rfl (by repeat (first | exact Upd.head | apply Upd.tail)) rfl (fun w1 _ hb => (quarter_any g7 (turnTo (roundsTo s0 i) k) (qAt k).1 (qAt k).2.1 (qAt k).2.2.1 (qAt k).2.2.2 w1 (by rw [turnTo_len, roundsTo_len, hl0]) h4.1 h4.2.1 h4.2.2.1 h4.2.2.2 (Hp.own1 hb))) ?_)
      refine Tr.lNil ?_
      refine Tr.inN ?_
      refine Tr.thenN ?_
      refine Tr.region ?_
      refine Tr.val (V.add rfl rfl (by omega)) rfl ?_
      refine Tr.val (V.move rfl) rfl ?_
      refine Tr.lNil ?_
      exact Tr.again (k + 1) (by omega) (by omega) (lk_cons rfl (lk_cons rfl (lk_cons rfl (lk_cons rfl (lk_cons rfl (lk_cons rfl (lk_nil _))))))) (List.sublist_cons_self _ _)
    · simp only [decide_eq_false_iff_not] at hF1
      obtain rfl : k = 8 := by omega
      refine Tr.exit ?_
      refine Tr.thenX ?_
      refine Tr.thenX ?_
      refine Tr.inHit ?_
      refine Tr.inN ?_
      refine Tr.thenN ?_
      refine Tr.region ?_
      refine Tr.val (V.add rfl rfl (by omega)) rfl ?_
      refine Tr.val (V.move rfl) rfl ?_
      refine Tr.lNil ?_
      exact Tr.again (i + 1) (by omega) (by omega) (lk_cons rfl (lk_cons rfl (lk_cons rfl (lk_cons rfl (lk_nil _))))) (List.Sublist.refl _)
  · simp only [decide_eq_false_iff_not] at hF0
    obtain rfl : i = 10 := by omega
    obtain ⟨S, hS⟩ : ∃ S, S = roundsTo s0 10 := ⟨_, rfl⟩
    have hSl : S.length = 16 := by rw [hS, roundsTo_len, hl0]
    rw [← hS]
    refine Tr.exit ?_
    refine Tr.thenX ?_
    refine Tr.thenX ?_
    refine Tr.inHit ?_
    refine Tr.thenN ?_
    refine Tr.seq ?_
    refine Tr.seq ?_
    refine Tr.region ?_
    refine Tr.val (V.loadN (cs := S.map U32) Tryd.isAgg47 (by rw [List.length_map, hSl]; exact Tryd.sizeOf47) rfl (V.cellsB (by repeat (first | exact List.Mem.head _ | apply List.Mem.tail)))) rfl ?_
    refine Tr.val (V.move rfl) rfl ?_
    refine Tr.lNil ?_
    refine Tr.thenN ?_
    refine Tr.block ?_
    refine Tr.loop (ι := Nat) (fun i => i ≤ 16) (fun i => [(6, .pointer (some ⟨g6, 0, none⟩)), (8, .pointer (some ⟨g8, 0, none⟩)), (28, .agg (S.map U32).toArray), (29, NV i)]) (fun i => [⟨g8, 47, s0.map U32⟩, ⟨g6, 29, (fillO S s0 i).map U8⟩]) (fun i => 16 - i) 0 (Nat.zero_le _) (lk_cons rfl (lk_cons rfl (lk_cons rfl (lk_cons rfl (lk_nil _))))) (by rw [fillO_zero]; exact .cons_cons _ (.cons _ (.cons_cons _ (List.nil_sublist _)))) fun i hI => ?_
    refine Tr.seq ?_
    refine Tr.region ?_
    refine Tr.val (V.lss rfl rfl rfl) rfl ?_
    refine Tr.lNil ?_
    refine Tr.thenN ?_
    refine Tr.seq ?_
    refine Tr.cond rfl (fun hT2 => ?_) (fun hF2 => ?_)
    · simp only [decide_eq_true_eq] at hT2
      have hlt : i < 16 := by omega
      refine Tr.skip ?_
      refine Tr.thenN ?_
      refine Tr.seq ?_
      refine Tr.block ?_
      refine Tr.seq ?_
      refine Tr.region ?_
      refine Tr.val (V.move rfl) rfl ?_
      refine Tr.val (V.index1 (cs := S.map U32) (j := i) Tryd.runUnderlying47 Tryd.sizeOf24 Tryd.isAgg24 rfl rfl rfl (by omega) (getS S i (by omega))) rfl ?_
      refine Tr.val (V.assign rfl) rfl ?_
      refine Tr.val (V.assign rfl) rfl ?_
      refine Tr.lNil ?_
      refine Tr.thenN ?_
      refine Tr.regionD [0, 1, 3, 0, 0, 16, 48, 120, 248, 504, 1023] [10] (.pure 0 (.pure 1 (.pure 2 (.pure 3 (.pure 4 (.pure 5 (.soft 6 (.pure 7 (.pure 8 (.hard 9 (.hard 10 .done))))))))))) mixed (by kernel_rfl) ?_
      refine TrP.pure rfl (fun _ => V.move rfl) rfl ?_
      refine TrP.pure rfl (fun _ => V.mulN (a := 4) rfl rfl (by omega)) rfl ?_
      refine TrP.pure rfl (fun _ => V.sliceP (l := (4 * i)) (h := 64) (o' := (4 * i)) (m' := (64 - (4 * i))) (c' := (64 - (4 * i))) Tryd.runUnderlying29 Tryd.sizeOf5 rfl rfl rfl rfl rfl (by omega) (by omega) (by omega) (by omega) (by omega) (by omega)) rfl ?_
      refine TrP.pure rfl (fun _ => V.move rfl) rfl ?_
      refine TrP.pure rfl (fun _ => V.move rfl) rfl ?_
      refine TrP.pure rfl (fun _ => V.idxA (j := i) (o' := i) Tryd.runUnderlying47 Tryd.sizeOf24 rfl rfl (by omega) (by omega) (by omega)) rfl ?_
      refine TrP.soft rfl (V.load1 Tryd.isAgg24 rfl (V.cellB (by repeat (first | exact List.Mem.head _ | apply List.Mem.tail)) (getS s0 i (by omega)))) rfl ?_
      refine TrP.pure rfl (fun _ => V.add32 rfl rfl) rfl ?_
      refine TrP.pure rfl (fun _ => V.conv32_64 Tryd.runUnderlying24 Tryd.runUnderlying53 rfl) rfl ?_
      refine TrP.hard rfl (W.call (val := fun x : Nat × Nat × List Value => .slice (some ⟨x.1, 0, none⟩) 4 x.2.1) (N := fun x => [⟨x.1, 5, (outAt S s0 i).map U8 ++ x.2.2⟩]) (Px := fun _ => True)  (args4 rfl rfl rfl rfl) Tryd.call25 rfl (fun w1 hw => by have h := put_nil 4 ((S.getD i 0#32 + s0.getD i 0#32).setWidth 64) false w1 (by decide); rw [show effI 4 = 4 from by decide] at h; exact h.mono fun _ _ ⟨x, h⟩ => ⟨x, h.1, h.2.1, trivial⟩) fun y _ => ?_)
      refine Tr.pOn (by first | exact List.Sublist.refl _ | exact List.sublist_cons_self _ _ | exact List.sublist_append_right _ _ | simp) ?_
      refine TrP.hard rfl (W.copy (d := 43) (q := 4) (cs := (fillO S s0 i).map U8) (vs := (outAt S s0 i).map U8) (cs' := (fillO S s0 (i + 1)).map U8) elem27 rfl rfl (RdP.headL (List.Mem.head _)) (by rw [List.length_map, outAt_len]) (one8 _) (show 4 = Nat.min 4 (64 - 4 * i) from (Nat.min_eq_left (by omega)).symm) (by repeat (first | exact Upd.head | apply Upd.tail)) (by rw [List.length_map, fillO_len _ _ i (by omega)]; omega) (by rw [← List.map_take, ← List.map_take, ← List.map_drop, ← List.map_append, ← List.map_append, fillO_step S s0 i hlt]) (.inr ⟨rfl, rfl⟩) rfl ?_)
      refine Tr.pTail rfl ?_
      refine TrP.done ?_
      refine Tr.inN ?_
      refine Tr.thenN ?_
      refine Tr.region ?_
      refine Tr.val (V.add rfl rfl (by omega)) rfl ?_
      refine Tr.val (V.move rfl) rfl ?_
      refine Tr.lNil ?_
      exact Tr.again (i + 1) (by omega) (by omega) (lk_cons rfl (lk_cons rfl (lk_cons rfl (lk_cons rfl (lk_nil _))))) (List.sublist_cons_self _ _)
    · simp only [decide_eq_false_iff_not] at hF2
      obtain rfl : i = 16 := by omega
      rw [show fillO S s0 16 = blockL key ctr nonce by rw [fillO_all, hS, hs0]; rfl]
      refine Tr.exit ?_
      refine Tr.thenX ?_
      refine Tr.thenX ?_
      refine Tr.inHit ?_
      refine Tr.thenN ?_
      refine Tr.seq ?_
      refine Tr.region ?_
      refine Tr.val (V.loadN (cs := (blockL key ctr nonce).map U8) Tryd.isAgg29 (by rw [List.length_map, blockL_len]; exact Tryd.sizeOf29) rfl (V.cellsB (by repeat (first | exact List.Mem.head _ | apply List.Mem.tail)))) rfl ?_
      refine Tr.op (W.storeAll (vs := (blockL key ctr nonce).map U8) (cs := (blockL key ctr nonce).map U8) Tryd.sizeOf29 rfl rfl (by rw [List.length_map, blockL_len]) (by rw [List.length_map, blockL_len]) (one8 _) (by repeat (first | exact Upd.head | apply Upd.tail)) ?_)
      refine Tr.lNil ?_
      refine Tr.thenN ?_
      refine Tr.ret ?_
      refine Tr.out1 rfl (Res.cellN (cs := (blockL key ctr nonce).map U8) rfl Tryd.isAgg29 (by rw [List.length_map, blockL_len]; exact Tryd.sizeOf29) (by repeat (first | exact List.Mem.head _ | apply List.Mem.tail))) fun w hw => ?_
      exact ⟨rfl, hw.sub (List.nil_sublist _)⟩

set_option maxRecDepth 20000 in
theorem stream_any (p0 : Option Addr) (m0 c0 : Nat) (key : List (BitVec 8)) (ctr : BitVec 32) (nonce b : List (BitVec 8)) (w : World) (hk : key.length = 32) (hn : nonce.length = 12) (hx0 : Bytes w p0 m0 c0 b) (hm : m0 ≤ 17592186044000) (hq0 : RdB w (some ⟨0, 0, none⟩) (qflat.map NV)) :
    Calls Tryd.prog 16 [.agg (key.map U8).toArray, U32 ctr, .agg (nonce.map U8).toArray, .slice p0 m0 c0].toArray w fun r w' => ∃ x : Nat × Nat × List Value, r = .returned (.slice (some ⟨x.1, 0, none⟩) m0 x.2.1) ∧ Hp w [] [⟨x.1, 5, (streamL key ctr nonce b).map U8 ++ x.2.2⟩] w' ∧ ((streamL key ctr nonce b).map U8 ++ x.2.2).length = x.2.1 := by
  have hml := hx0.length
  have hsl : (streamL key ctr nonce b).length = m0 := by rw [streamL_len, hml]
  refine Tr.enter Tryd.func16 rfl Tryd.ntmps16 rfl (Hp.refl w) ?_
  refine Tr.seq ?_
  refine Tr.region ?_
  refine Tr.op (W.box (cs := key.map U8) rfl rfl rfl fun g4 => ?_)
  refine Tr.op (W.box (cs := nonce.map U8) rfl rfl rfl fun g6 => ?_)
  refine Tr.val (V.assign rfl) rfl ?_
  refine Tr.lNil ?_
  refine Tr.thenN ?_
  refine Tr.seq ?_
  refine Tr.region ?_
  refine Tr.val (V.move rfl) rfl ?_
  refine Tr.val (V.len Tryd.runUnderlying27 rfl) rfl ?_
  refine Tr.op (W.makeSlice (l := 0) (c := m0) elem27 rfl rfl rfl rfl (by omega) (by omega) (by omega) rfl fun g14 => ?_)
  refine Tr.val (V.assign rfl) rfl ?_
  refine Tr.lNil ?_
  refine Tr.thenN ?_
  refine Tr.seq ?_
  refine Tr.block ?_
  refine Tr.loop (ι := Nat × (Option Addr × Nat) × (Nat × Nat × List Value)) (fun x => Bytes w x.2.1.1 (m0 - 64 * x.1) x.2.1.2 (b.drop (64 * x.1)) ∧ (((streamL key ctr nonce b).take (64 * x.1)).map U8 ++ x.2.2.2.2).length = x.2.2.2.1 ∧ 64 * x.1 ≤ m0 + 63) (fun x => [(1, U32 (ctr + BitVec.ofNat 32 x.1)), (3, .slice x.2.1.1 (m0 - 64 * x.1) x.2.1.2), (4, .pointer (some ⟨g4, 0, none⟩)), (6, .pointer (some ⟨g6, 0, none⟩)), (9, .slice (some ⟨x.2.2.1, 0, none⟩) ((streamL key ctr nonce b).take (64 * x.1)).length x.2.2.2.1)]) (fun x => [⟨x.2.2.1, 5, ((streamL key ctr nonce b).take (64 * x.1)).map U8 ++ x.2.2.2.2⟩, ⟨g6, 26, nonce.map U8⟩, ⟨g4, 23, key.map U8⟩]) (fun x => m0 - 64 * x.1) (0, (p0, c0), (g14, m0, List.replicate m0 (.int .u8 0))) ⟨hx0, by simp, Nat.zero_le _⟩ (lk_cons (congrArg some (by simp : U32 ctr = U32 (ctr + BitVec.ofNat 32 0))) (lk_cons rfl (lk_cons rfl (lk_cons rfl (lk_cons rfl (lk_nil _)))))) (by simp) fun x hI => ?_
  obtain ⟨k, ⟨p, c⟩, ⟨g, cq, junk⟩⟩ := x
  obtain ⟨hx, hok, hk63⟩ := hI
  simp only at hx hok hk63 ⊢
  obtain ⟨m, hmm⟩ : ∃ m, m = m0 - 64 * k := ⟨_, rfl⟩
  simp only [← hmm] at hx ⊢
  have hxl := hx.length
  have hxle := hx.le
  have htl : ((streamL key ctr nonce b).take (64 * k)).length ≤ m0 := by rw [List.length_take, hsl]; omega
  refine Tr.seq ?_
  refine Tr.seq ?_
  refine Tr.region ?_
  refine Tr.val (V.move rfl) rfl ?_
  refine Tr.val (V.len Tryd.runUnderlying27 rfl) rfl ?_
  refine Tr.val (V.gtr rfl rfl rfl) rfl ?_
  refine Tr.lNil ?_
  refine Tr.thenN ?_
  refine Tr.cond rfl (fun hT0 => ?_) (fun hF0 => ?_)
  · simp only [decide_eq_true_eq] at hT0
    obtain ⟨q, hq⟩ : ∃ q, q = Nat.min m 64 := ⟨_, rfl⟩
    have hq1 : q ≤ m := by rw [hq]; exact Nat.min_le_left _ _
    have hq2 : q ≤ 64 := by rw [hq]; exact Nat.min_le_right _ _
    have hql : (xorL (b.drop (64 * k)) (blockL key (ctr + BitVec.ofNat 32 k) nonce)).length = q := by rw [xor_len64 _ _ (blockL_len _ _ _), hxl, hq]
    have hqq : m - q = m0 - 64 * (k + 1) := by
      rcases Nat.le_total m 64 with h | h
      · rw [show q = m by rw [hq]; exact Nat.min_eq_left h]; omega
      · rw [show q = 64 by rw [hq]; exact Nat.min_eq_right h]; omega
    have hlen : ((streamL key ctr nonce b).take (64 * (k + 1))).length = ((streamL key ctr nonce b).take (64 * k)).length + (xorL (b.drop (64 * k)) (blockL key (ctr + BitVec.ofNat 32 k) nonce)).length := by rw [← streamL_step, List.length_append]
    have hx1 : Bytes w (if c = q then p else p.map (·.add q)) (m0 - 64 * (k + 1)) (c - q) (b.drop (64 * (k + 1))) := by
      have h := hx.drop q (by omega)
      rw [hqq, List.drop_drop] at h
      have e : b.drop (64 * k + q) = b.drop (64 * (k + 1)) := by
        rcases Nat.le_total m 64 with h | h
        · rw [List.drop_eq_nil_of_le (by rw [hml, show q = m by rw [hq]; exact Nat.min_eq_left h]; omega), List.drop_eq_nil_of_le (by omega)]
        · rw [show q = 64 by rw [hq]; exact Nat.min_eq_right h]; rfl
      rw [e] at h
      exact h
    have hnx : (Value.slice (if c = q then p else p.map (·.add q)) (m - q) (c - q)) = Value.slice (if c = q then p else p.map (·.add q)) (m0 - 64 * (k + 1)) (c - q) := by rw [hqq]
    refine Tr.skip ?_
    refine Tr.thenN ?_
    refine Tr.block ?_
    refine Tr.seq ?_
    refine Tr.region ?_
    refine Tr.val (V.loadN (cs := key.map U8) Tryd.isAgg23 (by rw [List.length_map, hk]; exact Tryd.sizeOf23) rfl (V.cellsB (by repeat (first | exact List.Mem.head _ | apply List.Mem.tail)))) rfl ?_
    refine Tr.val (V.move rfl) rfl ?_
    refine Tr.val (V.loadN (cs := nonce.map U8) Tryd.isAgg26 (by rw [List.length_map, hn]; exact Tryd.sizeOf26) rfl (V.cellsB (by repeat (first | exact List.Mem.head _ | apply List.Mem.tail)))) rfl ?_
    refine Tr.op (W.call1 (args3 rfl rfl rfl) Tryd.call15 rfl (fun w1 hw => block_any key (ctr + BitVec.ofNat 32 k) nonce w1 hk hn ((RdP.old hq0 (fun _ _ => by simp)).now hw)) ?_)
    refine Tr.op (W.alloc (cs := (List.replicate 64 0#8).map U8) Tryd.zeroValue29 rfl rfl fun g10 => ?_)
    refine Tr.op (W.storeAll (vs := (blockL key (ctr + BitVec.ofNat 32 k) nonce).map U8) (cs := (List.replicate 64 0#8).map U8) Tryd.sizeOf29 rfl rfl (by rw [List.length_map, blockL_len]) rfl (one8 _) (by repeat (first | exact Upd.head | apply Upd.tail)) ?_)
    refine Tr.lNil ?_
    refine Tr.thenN ?_
    refine Tr.seq ?_
    refine Tr.region ?_
    refine Tr.val (V.move rfl) rfl ?_
    refine Tr.val (V.sliceW Tryd.runUnderlying29 Tryd.sizeOf5 rfl) rfl ?_
    refine Tr.op (W.call (val := fun x : Nat => .slice (some ⟨x, 0, none⟩) (xorL (b.drop (64 * k)) (blockL key (ctr + BitVec.ofNat 32 k) nonce)).length (xorL (b.drop (64 * k)) (blockL key (ctr + BitVec.ofNat 32 k) nonce)).length) (N := fun x => [⟨x, 5, (xorL (b.drop (64 * k)) (blockL key (ctr + BitVec.ofNat 32 k) nonce)).map U8⟩]) (Px := fun _ => True)  (args2 rfl rfl) Tryd.call26 rfl (fun w1 hw => (xor_any p (some ⟨g10, 0, none⟩) m c 64 64 (b.drop (64 * k)) (blockL key (ctr + BitVec.ofNat 32 k) nonce) w1 (hx.old.now hw) ((RdP.all (List.Mem.head _)).now hw) hx.length (blockL_len _ _ _) (by omega) (by omega)).mono fun _ _ ⟨x, h⟩ => ⟨x, h.1, h.2, trivial⟩) fun g24 _ => ?_)
    refine Tr.val (V.assign rfl) rfl ?_
    refine Tr.lNil ?_
    refine Tr.thenN ?_
    refine Tr.seq ?_
    refine Tr.regionD [0, 0, 3, 0, 0, 16, 56, 7, 255] [2] (.pure 0 (.pure 1 (.pure 3 (.pure 4 (.pure 5 (.pure 6 (.hard 2 (.pure 7 (.pure 8 .done))))))))) mixed (by kernel_rfl) ?_
    refine TrP.pure rfl (fun _ => V.move rfl) rfl ?_
    refine TrP.pure rfl (fun _ => V.move rfl) rfl ?_
    refine TrP.pure rfl (fun _ => V.move rfl) rfl ?_
    refine TrP.pure rfl (fun _ => V.move rfl) rfl ?_
    refine TrP.pure rfl (fun _ => V.len Tryd.runUnderlying27 rfl) rfl ?_
    refine TrP.pure rfl (fun _ => V.sliceS (l := q) Tryd.runUnderlying27 Tryd.sizeOf5 rfl rfl rfl (by simp only [V.bnd]; rw [hql]) rfl (by omega) (by omega)) rfl ?_
    refine TrP.hard rfl (W.append (xs := ((streamL key ctr nonce b).take (64 * k)).map U8) (vs := (xorL (b.drop (64 * k)) (blockL key (ctr + BitVec.ofNat 32 k) nonce)).map U8) (junk := junk) (L' := fun y => [⟨g24, 5, (xorL (b.drop (64 * k)) (blockL key (ctr + BitVec.ofNat 32 k) nonce)).map U8⟩, ⟨g10, 29, (blockL key (ctr + BitVec.ofNat 32 k) nonce).map U8⟩, y, ⟨g6, 26, nonce.map U8⟩, ⟨g4, 23, key.map U8⟩]) elem27 rfl rfl (RdP.all (List.Mem.head _)) (by rw [List.length_map]) (one8 _) (fun y => .tail (.tail .head)) (by rw [List.length_map]) hok (by omega) (by omega) rfl fun g' c' junk' hc' => ?_)
    refine Tr.pTail rfl ?_
    rw [← List.map_append, streamL_step] at hc' ⊢
    refine TrP.pure rfl (fun _ => V.assign rfl) rfl ?_
    refine TrP.pure rfl (fun _ => V.assign rfl) rfl ?_
    refine TrP.done ?_
    refine Tr.thenN ?_
    refine Tr.region ?_
    refine Tr.val (V.move rfl) rfl ?_
    refine Tr.val (V.add32 (Y := 1#32) rfl rfl) rfl ?_
    refine Tr.val (V.assign rfl) rfl ?_
    refine Tr.lNil ?_
    refine Tr.inN ?_
    exact Tr.again (k + 1, ((if c = q then p else p.map (·.add q)), c - q), (g', c', junk')) ⟨hx1, hc', by simp only; omega⟩ (by simp only; omega) (lk_cons (by rw [ctr_succ ctr k]; rfl) (lk_cons (congrArg some hnx) (lk_cons rfl (lk_cons rfl (lk_cons (by rw [hlen]; rfl) (lk_nil _)))))) (.cons _ (.cons _ (List.Sublist.refl _)))
  · simp only [decide_eq_false_iff_not] at hF0
    have hall : (streamL key ctr nonce b).take (64 * k) = (streamL key ctr nonce b) := List.take_of_length_le (by omega)
    rw [hall] at hok ⊢
    rw [hsl]
    refine Tr.exit ?_
    refine Tr.thenX ?_
    refine Tr.thenX ?_
    refine Tr.inHit ?_
    refine Tr.thenN ?_
    refine Tr.seq ?_
    refine Tr.region ?_
    refine Tr.val (V.move rfl) rfl ?_
    refine Tr.val (V.assign rfl) rfl ?_
    refine Tr.lNil ?_
    refine Tr.thenN ?_
    refine Tr.ret ?_
    refine Tr.out1 rfl (Res.tmp rfl) fun w hw => ?_
    exact ⟨⟨g, cq, junk⟩, rfl, hw.sub (.cons_cons _ (List.nil_sublist _)), hok⟩

end Go.Proofs.YtnhfmmohdiccgaaDoor
