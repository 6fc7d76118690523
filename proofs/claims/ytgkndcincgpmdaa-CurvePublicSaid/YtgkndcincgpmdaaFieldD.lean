/-
  Contracts of package field: Bytes, From. (Printed by a program of this session over its walk printer.)
-/
import Derived.Test.YtgkndcincgpmdaaFieldC
import Derived.Test.YtgkndcincgpmdaaWordsB
namespace Go.Proofs.Ytgkndcincgpmdaa
open Go.Sym Plain
set_option linter.unusedVariables false
set_option maxRecDepth 20000

theorem from_any (key : List (BitVec 8)) (w : World) (hk : key.length = 32) : Calls Try.prog 17 [.agg (key.map U8).toArray].toArray w fun r w' => r = .returned (.agg ((fromL key).map U64).toArray) ∧ Hp w [] [] w' := by
  have hmw : ∀ k, k ≤ 4 → (mixL (List.replicate 4 0#64) (wordsK key) k).length = 4 := fun k hk4 => mixL_len (List.replicate 4 0#64) (wordsK key) k rfl hk4
  obtain ⟨ws, hW⟩ : ∃ ws, ws = wordsK key := ⟨_, rfl⟩
  have hWl : ws.length = 4 := by rw [hW]; rfl
  have hll : ∀ i, (limbsTo ws i).length = 5 := fun i => limbsTo_len ws i
  refine Tr.enter Try.func17 rfl Try.ntmps17 rfl (Hp.refl w) ?_
  refine Tr.seq ?_
  refine Tr.region ?_
  refine Tr.op (W.box (cs := key.map U8) rfl rfl rfl fun g1 => ?_)
  refine Tr.op (W.alloc (cs := [0#64, 0#64, 0#64, 0#64, 0#64].map U64) Try.zeroValue41 rfl rfl fun g2 => ?_)
  refine Tr.lNil ?_
  refine Tr.thenN ?_
  refine Tr.seq ?_
  refine Tr.region ?_
  refine Tr.op (W.alloc (cs := (List.replicate 4 0#64).map U64) Try.zeroValue63 rfl rfl fun g3 => ?_)
  refine Tr.lNil ?_
  refine Tr.thenN ?_
  refine Tr.seq ?_
  refine Tr.seq ?_
  refine Tr.region ?_
  refine Tr.val (V.move rfl) rfl ?_
  refine Tr.lNil ?_
  refine Tr.thenN ?_
  refine Tr.block ?_
  refine Tr.loop (ι := Nat) (fun k => k ≤ 4) (fun k => [(1, .pointer (some ⟨g1, 0, none⟩)), (2, .pointer (some ⟨g2, 0, none⟩)), (3, .pointer (some ⟨g3, 0, none⟩)), (9, NV k)]) (fun k => [⟨g3, 63, (mixL (List.replicate 4 0#64) (wordsK key) k).map U64⟩, ⟨g2, 41, [0#64, 0#64, 0#64, 0#64, 0#64].map U64⟩, ⟨g1, 23, key.map U8⟩]) (fun k => 4 - k) 0 (Nat.zero_le _) (lk_cons rfl (lk_cons rfl (lk_cons rfl (lk_cons rfl (lk_nil _))))) (List.Sublist.refl _) fun k hI => ?_
  refine Tr.seq ?_
  refine Tr.region ?_
  refine Tr.val (V.lss rfl rfl rfl) rfl ?_
  refine Tr.lNil ?_
  refine Tr.thenN ?_
  refine Tr.seq ?_
  refine Tr.cond rfl (fun hT0 => ?_) (fun hF0 => ?_)
  · simp only [decide_eq_true_eq] at hT0
    have hlk : k < 4 := by omega
    refine Tr.skip ?_
    refine Tr.thenN ?_
    refine Tr.seq ?_
    refine Tr.block ?_
    refine Tr.seq ?_
    refine Tr.region ?_
    refine Tr.val (V.move rfl) rfl ?_
    refine Tr.val (V.assign rfl) rfl ?_
    refine Tr.lNil ?_
    refine Tr.thenN ?_
    refine Tr.region ?_
    refine Tr.val (V.move rfl) rfl ?_
    refine Tr.val (V.sliceW Try.runUnderlying23 Try.sizeOf5 rfl) rfl ?_
    refine Tr.val (V.move rfl) rfl ?_
    refine Tr.val (V.mulN (a := 8) rfl rfl (by omega)) rfl ?_
    refine Tr.op (W.call1 (args4 rfl rfl rfl rfl) Try.call30 rfl (fun w1 hw => by have h := get_ok (some ⟨g1, 0, none⟩) 32 32 (8 * k) 8 false key w1 ((RdP.all (by repeat (first | exact List.Mem.head _ | apply List.Mem.tail))).now hw) hk (by omega) (by omega) (by omega) (by omega); rw [wordsK_get key k hlk] at h; exact h) ?_)
    refine Tr.val (V.move rfl) rfl ?_
    refine Tr.val (V.extract rfl rfl) rfl ?_
    refine Tr.val (V.extract rfl rfl) rfl ?_
    refine Tr.val (V.idxA (j := k) (o' := k) Try.runUnderlying63 Try.sizeOf38 rfl rfl (by omega) (by omega) (by omega)) rfl ?_
    refine Tr.op (W.store1E (cs := (mixL (List.replicate 4 0#64) (wordsK key) k).map U64) (v := U64 ((wordsK key).getD k 0#64)) (cs' := (mixL (List.replicate 4 0#64) (wordsK key) (k + 1)).map U64) Try.sizeOf38 rfl rfl rfl rfl (by rw [← mixL_set (List.replicate 4 0#64) (wordsK key) k rfl hlk, List.map_set]) (by repeat (first | exact Upd.head | apply Upd.tail)) (by rw [List.length_map, hmw k (by omega)]; exact hlk) ?_)
    refine Tr.lNil ?_
    refine Tr.inN ?_
    refine Tr.thenN ?_
    refine Tr.region ?_
    refine Tr.val (V.add rfl rfl (by omega)) rfl ?_
    refine Tr.val (V.move rfl) rfl ?_
    refine Tr.lNil ?_
    exact Tr.again (k + 1) (by omega) (by omega) (lk_cons rfl (lk_cons rfl (lk_cons rfl (lk_cons rfl (lk_nil _))))) (List.Sublist.refl _)
  · simp only [decide_eq_false_iff_not] at hF0
    obtain rfl : k = 4 := by omega
    rw [show mixL (List.replicate 4 0#64) (wordsK key) 4 = ws by rw [hW]; exact mixL_all (List.replicate 4 0#64) (wordsK key) rfl]
    refine Tr.exit ?_
    refine Tr.thenX ?_
    refine Tr.thenX ?_
    refine Tr.inHit ?_
    refine Tr.thenN ?_
    refine Tr.seq ?_
    refine Tr.region ?_
    refine Tr.op (W.alloc (cs := (limbsTo ws 0).map U64) Try.zeroValue41 rfl rfl fun g5 => ?_)
    refine Tr.lNil ?_
    refine Tr.thenN ?_
    refine Tr.seq ?_
    refine Tr.seq ?_
    refine Tr.region ?_
    refine Tr.val (V.move rfl) rfl ?_
    refine Tr.lNil ?_
    refine Tr.thenN ?_
    refine Tr.block ?_
    refine Tr.loop (ι := Nat) (fun i => i ≤ 5) (fun i => [(2, .pointer (some ⟨g2, 0, none⟩)), (3, .pointer (some ⟨g3, 0, none⟩)), (5, .pointer (some ⟨g5, 0, none⟩)), (22, NV i)]) (fun i => [⟨g5, 41, (limbsTo ws i).map U64⟩, ⟨g3, 63, ws.map U64⟩, ⟨g2, 41, [0#64, 0#64, 0#64, 0#64, 0#64].map U64⟩]) (fun i => 5 - i) 0 (Nat.zero_le _) (lk_cons rfl (lk_cons rfl (lk_cons rfl (lk_cons rfl (lk_nil _))))) (.cons_cons _ (.cons_cons _ (.cons_cons _ (List.nil_sublist _)))) fun i hI => ?_
    have h3 : (i < 5 ∧ 13 < 51 * i % 64) ∨ (i < 5 ∧ ¬ 13 < 51 * i % 64) ∨ i = 5 := by omega
    rcases h3 with ⟨hlt, hc⟩ | ⟨hlt, hc⟩ | rfl
    · have hlo : limbHigh ws i &&& 2251799813685247#64 = limbOf ws i := by rw [limbOf, if_pos ⟨hc, by omega⟩]
      refine Tr.seq ?_
      refine Tr.region ?_
      refine Tr.val (V.lss (b := true) rfl rfl (decide_eq_true (by omega))) rfl ?_
      refine Tr.lNil ?_
      refine Tr.thenN ?_
      refine Tr.seq ?_
      refine Tr.condT rfl ?_
      refine Tr.skip ?_
      refine Tr.thenN ?_
      refine Tr.seq ?_
      refine Tr.block ?_
      refine Tr.seq ?_
      refine Tr.region ?_
      refine Tr.val (V.move rfl) rfl ?_
      refine Tr.val (V.assign rfl) rfl ?_
      refine Tr.lNil ?_
      refine Tr.thenN ?_
      refine Tr.seq ?_
      refine Tr.region ?_
      refine Tr.val (V.move rfl) rfl ?_
      refine Tr.val (V.mulN (a := 51) rfl rfl (by omega)) rfl ?_
      refine Tr.val (V.assign rfl) rfl ?_
      refine Tr.lNil ?_
      refine Tr.thenN ?_
      refine Tr.seq ?_
      refine Tr.region ?_
      refine Tr.val (V.move rfl) rfl ?_
      refine Tr.val (V.quoN (b := 64) rfl rfl (by omega) (by omega)) rfl ?_
      refine Tr.val (V.idxA (j := (51 * i / 64)) (o' := (51 * i / 64)) Try.runUnderlying63 Try.sizeOf38 rfl rfl (by omega) (by omega) (by omega)) rfl ?_
      refine Tr.val (V.load1 Try.isAgg38 rfl (V.cellB (by repeat (first | exact List.Mem.head _ | apply List.Mem.tail)) (getU ws (51 * i / 64) (by omega)))) rfl ?_
      refine Tr.val (V.move rfl) rfl ?_
      refine Tr.val (V.remN (b := 64) rfl rfl (by omega)) rfl ?_
      refine Tr.val (V.shr64 (s := 51 * i % 64) rfl rfl) rfl ?_
      refine Tr.val (V.assign rfl) rfl ?_
      refine Tr.lNil ?_
      refine Tr.thenN ?_
      refine Tr.seq ?_
      refine Tr.seq ?_
      refine Tr.region ?_
      refine Tr.val (V.move rfl) rfl ?_
      refine Tr.val (V.remN (b := 64) rfl rfl (by omega)) rfl ?_
      refine Tr.val (V.gtr (b := true) rfl rfl (decide_eq_true (by omega))) rfl ?_
      refine Tr.val (V.move rfl) rfl ?_
      refine Tr.valG rfl (V.move rfl) rfl ?_
      refine Tr.valG rfl (V.quoN (b := 64) rfl rfl (by omega) (by omega)) rfl ?_
      refine Tr.valG rfl (V.lss (b := true) rfl rfl (decide_eq_true (by omega))) rfl ?_
      refine Tr.val (V.pick rfl rfl) rfl ?_
      refine Tr.lNil ?_
      refine Tr.thenN ?_
      refine Tr.condT rfl ?_
      refine Tr.region ?_
      refine Tr.val (V.move rfl) rfl ?_
      refine Tr.val (V.move rfl) rfl ?_
      refine Tr.val (V.quoN (b := 64) rfl rfl (by omega) (by omega)) rfl ?_
      refine Tr.val (V.addN (b := 1) rfl rfl (by omega)) rfl ?_
      refine Tr.val (V.idxA (j := (51 * i / 64 + 1)) (o' := (51 * i / 64 + 1)) Try.runUnderlying63 Try.sizeOf38 rfl rfl (by omega) (by omega) (by omega)) rfl ?_
      refine Tr.val (V.load1 Try.isAgg38 rfl (V.cellB (by repeat (first | exact List.Mem.head _ | apply List.Mem.tail)) (getU ws (51 * i / 64 + 1) (by omega)))) rfl ?_
      refine Tr.val (V.move rfl) rfl ?_
      refine Tr.val (V.remN (b := 64) rfl rfl (by omega)) rfl ?_
      refine Tr.val (V.subN (a := 64) (b := 51 * i % 64) rfl rfl (by omega) (by omega)) rfl ?_
      refine Tr.val (V.shl64 (s := 64 - 51 * i % 64) rfl rfl) rfl ?_
      refine Tr.val (V.or64 rfl rfl) rfl ?_
      refine Tr.val (V.assign rfl) rfl ?_
      refine Tr.lNil ?_
      refine Tr.thenN ?_
      refine Tr.region ?_
      refine Tr.val (V.move rfl) rfl ?_
      refine Tr.val (V.move rfl) rfl ?_
      refine Tr.val (V.eqU64 hlo (V.and64 (Y := 2251799813685247#64) rfl rfl)) rfl ?_
      refine Tr.val (V.fieldS (o' := 0) Try.runUnderlying41 rfl rfl Try.sizeOf39 (by omega) rfl) rfl ?_
      refine Tr.val (V.idxA (j := i) (o' := i) Try.runUnderlying39 Try.sizeOf38 rfl rfl (by omega) (by omega) (by omega)) rfl ?_
      refine Tr.op (W.store1E (cs := (limbsTo ws i).map U64) (v := U64 (limbOf ws i)) (cs' := (limbsTo ws (i + 1)).map U64) Try.sizeOf38 rfl rfl rfl rfl (by rw [limbsTo, List.map_set]) (by repeat (first | exact Upd.head | apply Upd.tail)) (by rw [List.length_map, hll]; omega) ?_)
      refine Tr.lNil ?_
      refine Tr.inN ?_
      refine Tr.thenN ?_
      refine Tr.region ?_
      refine Tr.val (V.add rfl rfl (by omega)) rfl ?_
      refine Tr.val (V.move rfl) rfl ?_
      refine Tr.lNil ?_
      exact Tr.again (i + 1) (by omega) (by omega) (lk_cons rfl (lk_cons rfl (lk_cons rfl (lk_cons rfl (lk_nil _))))) (List.Sublist.refl _)
    · have hlo : limbLow ws i &&& 2251799813685247#64 = limbOf ws i := by rw [limbOf, if_neg (fun h => hc h.1)]
      refine Tr.seq ?_
      refine Tr.region ?_
      refine Tr.val (V.lss (b := true) rfl rfl (decide_eq_true (by omega))) rfl ?_
      refine Tr.lNil ?_
      refine Tr.thenN ?_
      refine Tr.seq ?_
      refine Tr.condT rfl ?_
      refine Tr.skip ?_
      refine Tr.thenN ?_
      refine Tr.seq ?_
      refine Tr.block ?_
      refine Tr.seq ?_
      refine Tr.region ?_
      refine Tr.val (V.move rfl) rfl ?_
      refine Tr.val (V.assign rfl) rfl ?_
      refine Tr.lNil ?_
      refine Tr.thenN ?_
      refine Tr.seq ?_
      refine Tr.region ?_
      refine Tr.val (V.move rfl) rfl ?_
      refine Tr.val (V.mulN (a := 51) rfl rfl (by omega)) rfl ?_
      refine Tr.val (V.assign rfl) rfl ?_
      refine Tr.lNil ?_
      refine Tr.thenN ?_
      refine Tr.seq ?_
      refine Tr.region ?_
      refine Tr.val (V.move rfl) rfl ?_
      refine Tr.val (V.quoN (b := 64) rfl rfl (by omega) (by omega)) rfl ?_
      refine Tr.val (V.idxA (j := (51 * i / 64)) (o' := (51 * i / 64)) Try.runUnderlying63 Try.sizeOf38 rfl rfl (by omega) (by omega) (by omega)) rfl ?_
      refine Tr.val (V.load1 Try.isAgg38 rfl (V.cellB (by repeat (first | exact List.Mem.head _ | apply List.Mem.tail)) (getU ws (51 * i / 64) (by omega)))) rfl ?_
      refine Tr.val (V.move rfl) rfl ?_
      refine Tr.val (V.remN (b := 64) rfl rfl (by omega)) rfl ?_
      refine Tr.val (V.shr64 (s := 51 * i % 64) rfl rfl) rfl ?_
      refine Tr.val (V.assign rfl) rfl ?_
      refine Tr.lNil ?_
      refine Tr.thenN ?_
      refine Tr.seq ?_
      refine Tr.seq ?_
      refine Tr.region ?_
      refine Tr.val (V.move rfl) rfl ?_
      refine Tr.val (V.remN (b := 64) rfl rfl (by omega)) rfl ?_
      refine Tr.val (V.gtr (b := false) rfl rfl (decide_eq_false (by omega))) rfl ?_
      refine Tr.val (V.move rfl) rfl ?_
      refine Tr.skipG rfl rfl rfl ?_
      refine Tr.skipG rfl rfl rfl ?_
      refine Tr.skipG rfl rfl rfl ?_
      refine Tr.val (V.pick rfl rfl) rfl ?_
      refine Tr.lNil ?_
      refine Tr.thenN ?_
      refine Tr.condF rfl ?_
      refine Tr.skip ?_
      refine Tr.thenN ?_
      refine Tr.region ?_
      refine Tr.val (V.move rfl) rfl ?_
      refine Tr.val (V.move rfl) rfl ?_
      refine Tr.val (V.eqU64 hlo (V.and64 (Y := 2251799813685247#64) rfl rfl)) rfl ?_
      refine Tr.val (V.fieldS (o' := 0) Try.runUnderlying41 rfl rfl Try.sizeOf39 (by omega) rfl) rfl ?_
      refine Tr.val (V.idxA (j := i) (o' := i) Try.runUnderlying39 Try.sizeOf38 rfl rfl (by omega) (by omega) (by omega)) rfl ?_
      refine Tr.op (W.store1E (cs := (limbsTo ws i).map U64) (v := U64 (limbOf ws i)) (cs' := (limbsTo ws (i + 1)).map U64) Try.sizeOf38 rfl rfl rfl rfl (by rw [limbsTo, List.map_set]) (by repeat (first | exact Upd.head | apply Upd.tail)) (by rw [List.length_map, hll]; omega) ?_)
      refine Tr.lNil ?_
      refine Tr.inN ?_
      refine Tr.thenN ?_
      refine Tr.region ?_
      refine Tr.val (V.add rfl rfl (by omega)) rfl ?_
      refine Tr.val (V.move rfl) rfl ?_
      refine Tr.lNil ?_
      exact Tr.again (i + 1) (by omega) (by omega) (lk_cons rfl (lk_cons rfl (lk_cons rfl (lk_cons rfl (lk_nil _))))) (List.Sublist.refl _)
    · refine Tr.seq ?_
      refine Tr.region ?_
      refine Tr.val (V.lss (b := false) rfl rfl (decide_eq_false (by omega))) rfl ?_
      refine Tr.lNil ?_
      refine Tr.thenN ?_
      refine Tr.seq ?_
      refine Tr.condF rfl ?_
      refine Tr.exit ?_
      refine Tr.thenX ?_
      refine Tr.thenX ?_
      refine Tr.inHit ?_
      refine Tr.thenN ?_
      refine Tr.seq ?_
      refine Tr.region ?_
      refine Tr.val (V.loadN (cs := (limbsTo ws 5).map U64) Try.isAgg41 (by rw [List.length_map, hll]; exact Try.sizeOf41) rfl (V.cellsB (by repeat (first | exact List.Mem.head _ | apply List.Mem.tail)))) rfl ?_
      refine Tr.op (W.storeAll (vs := (limbsTo ws 5).map U64) (cs := [0#64, 0#64, 0#64, 0#64, 0#64].map U64) Try.sizeOf41 rfl rfl (by rw [List.length_map, hll]) rfl (one64 _) (by repeat (first | exact Upd.head | apply Upd.tail)) ?_)
      refine Tr.lNil ?_
      refine Tr.thenN ?_
      refine Tr.ret ?_
      refine Tr.out1 rfl (Res.cellN (cs := (limbsTo ws 5).map U64) rfl Try.isAgg41 (by rw [List.length_map, hll]; exact Try.sizeOf41) (by repeat (first | exact List.Mem.head _ | apply List.Mem.tail))) fun w hw => ?_
      exact ⟨by rw [hW]; rfl, hw.sub (List.nil_sublist _)⟩

theorem ebytes_any (l : List (BitVec 64)) (w : World) (hl : l.length = 5) : Calls Try.prog 18 [.agg (l.map U64).toArray].toArray w fun r w' => r = .returned (.agg ((bytesL l).map U8).toArray) ∧ Hp w [] [] w' := by
  obtain ⟨q, hq⟩ : ∃ q, q = leastL l := ⟨_, rfl⟩
  have hql : q.length = 5 := by rw [hq, leastL_len, hl]
  have hbz : ∀ i, i ≤ 4 → (bytesZ q i).length = 32 := fun i hi => bytesZ_len q i hi
  refine Tr.enter Try.func18 rfl Try.ntmps18 rfl (Hp.refl w) ?_
  refine Tr.seq ?_
  refine Tr.region ?_
  refine Tr.op (W.box (cs := l.map U64) rfl rfl rfl fun g1 => ?_)
  refine Tr.op (W.alloc (cs := (bytesZ q 0).map U8) Try.zeroValue23 rfl rfl fun g2 => ?_)
  refine Tr.lNil ?_
  refine Tr.thenN ?_
  refine Tr.seq ?_
  refine Tr.region ?_
  refine Tr.val (V.loadN (cs := l.map U64) Try.isAgg41 (by rw [List.length_map, hl]; exact Try.sizeOf41) rfl (V.cellsB (by repeat (first | exact List.Mem.head _ | apply List.Mem.tail)))) rfl ?_
  refine Tr.op (W.call1 (args1 rfl) Try.call31 rfl (fun w1 _ => by have h := least_any l w1 hl; rw [← hq] at h; exact h) ?_)
  refine Tr.op (W.alloc (cs := [0#64, 0#64, 0#64, 0#64, 0#64].map U64) Try.zeroValue39 rfl rfl fun g3 => ?_)
  refine Tr.op (W.storeAll (vs := q.map U64) (cs := [0#64, 0#64, 0#64, 0#64, 0#64].map U64) Try.sizeOf39 rfl rfl (by rw [List.length_map, hql]) rfl (one64 _) (by repeat (first | exact Upd.head | apply Upd.tail)) ?_)
  refine Tr.lNil ?_
  refine Tr.thenN ?_
  refine Tr.seq ?_
  refine Tr.seq ?_
  refine Tr.region ?_
  refine Tr.val (V.move rfl) rfl ?_
  refine Tr.lNil ?_
  refine Tr.thenN ?_
  refine Tr.block ?_
  refine Tr.loop (ι := Nat) (fun i => i ≤ 4) (fun i => [(2, .pointer (some ⟨g2, 0, none⟩)), (3, .pointer (some ⟨g3, 0, none⟩)), (11, NV i)]) (fun i => [⟨g3, 39, q.map U64⟩, ⟨g2, 23, (bytesZ q i).map U8⟩]) (fun i => 4 - i) 0 (Nat.zero_le _) (lk_cons rfl (lk_cons rfl (lk_cons rfl (lk_nil _)))) (.cons_cons _ (.cons_cons _ (List.nil_sublist _))) fun i hI => ?_
  refine Tr.seq ?_
  refine Tr.region ?_
  refine Tr.val (V.lss rfl rfl rfl) rfl ?_
  refine Tr.lNil ?_
  refine Tr.thenN ?_
  refine Tr.seq ?_
  refine Tr.cond rfl (fun hT0 => ?_) (fun hF0 => ?_)
  · simp only [decide_eq_true_eq] at hT0
    have hlt : i < 4 := by omega
    refine Tr.skip ?_
    refine Tr.thenN ?_
    refine Tr.seq ?_
    refine Tr.block ?_
    refine Tr.seq ?_
    refine Tr.region ?_
    refine Tr.val (V.move rfl) rfl ?_
    refine Tr.val (V.assign rfl) rfl ?_
    refine Tr.lNil ?_
    refine Tr.thenN ?_
    refine Tr.seq ?_
    refine Tr.region ?_
    refine Tr.val (V.move rfl) rfl ?_
    refine Tr.val (V.mulN (a := 64) rfl rfl (by omega)) rfl ?_
    refine Tr.val (V.assign rfl) rfl ?_
    refine Tr.lNil ?_
    refine Tr.thenN ?_
    refine Tr.seq ?_
    refine Tr.region ?_
    refine Tr.val (V.move rfl) rfl ?_
    refine Tr.val (V.quoN (b := 51) rfl rfl (by omega) (by omega)) rfl ?_
    refine Tr.val (V.assign rfl) rfl ?_
    refine Tr.lNil ?_
    refine Tr.thenN ?_
    refine Tr.seq ?_
    refine Tr.region ?_
    refine Tr.val (V.move rfl) rfl ?_
    refine Tr.val (V.idxA (j := (64 * i / 51)) (o' := (64 * i / 51)) Try.runUnderlying39 Try.sizeOf38 rfl rfl (by omega) (by omega) (by omega)) rfl ?_
    refine Tr.val (V.load1 Try.isAgg38 rfl (V.cellB (by repeat (first | exact List.Mem.head _ | apply List.Mem.tail)) (getU q (64 * i / 51) (by omega)))) rfl ?_
    refine Tr.val (V.move rfl) rfl ?_
    refine Tr.val (V.remN (b := 51) rfl rfl (by omega)) rfl ?_
    refine Tr.val (V.shr64 (s := 64 * i % 51) rfl rfl) rfl ?_
    refine Tr.val (V.assign rfl) rfl ?_
    refine Tr.lNil ?_
    refine Tr.thenN ?_
    refine Tr.seq ?_
    refine Tr.seq ?_
    refine Tr.region ?_
    refine Tr.val (V.move rfl) rfl ?_
    refine Tr.val (V.remN (b := 51) rfl rfl (by omega)) rfl ?_
    refine Tr.val (V.subN (a := 51) (b := 64 * i % 51) rfl rfl (by omega) (by omega)) rfl ?_
    refine Tr.val (V.assign rfl) rfl ?_
    refine Tr.lNil ?_
    refine Tr.thenN ?_
    refine Tr.block ?_
    refine Tr.loop (ι := Nat) (fun j => j ≤ 1) (fun j => [(2, .pointer (some ⟨g2, 0, none⟩)), (3, .pointer (some ⟨g3, 0, none⟩)), (11, NV i), (4, NV i), (5, NV (64 * i)), (6, NV (64 * i / 51 + j)), (7, U64 (wordTo q i j)), (8, NV (51 - 64 * i % 51 + 51 * j))]) (fun j => [⟨g3, 39, q.map U64⟩, ⟨g2, 23, (bytesZ q i).map U8⟩]) (fun j => 1 - j) 0 (Nat.zero_le _) (lk_cons rfl (lk_cons rfl (lk_cons rfl (lk_cons rfl (lk_cons rfl (lk_cons rfl (lk_cons rfl (lk_cons rfl (lk_nil _))))))))) (List.Sublist.refl _) fun j hI => ?_
    have h3 : j = 0 ∨ (j = 1 ∧ 38 < 64 * i % 51) ∨ (j = 1 ∧ ¬ 38 < 64 * i % 51) := by omega
    rcases h3 with rfl | ⟨rfl, hc⟩ | ⟨rfl, hc⟩
    · refine Tr.seq ?_
      refine Tr.seq ?_
      refine Tr.region ?_
      refine Tr.val (V.move rfl) rfl ?_
      refine Tr.val (V.lss (b := true) rfl rfl (decide_eq_true (by omega))) rfl ?_
      refine Tr.val (V.move rfl) rfl ?_
      refine Tr.valG rfl (V.move rfl) rfl ?_
      refine Tr.valG rfl (V.addN (b := 1) rfl rfl (by omega)) rfl ?_
      refine Tr.valG rfl (V.lss (b := true) rfl rfl (decide_eq_true (by omega))) rfl ?_
      refine Tr.val (V.pick rfl rfl) rfl ?_
      refine Tr.lNil ?_
      refine Tr.thenN ?_
      refine Tr.condT rfl ?_
      refine Tr.skip ?_
      refine Tr.thenN ?_
      refine Tr.seq ?_
      refine Tr.block ?_
      refine Tr.seq ?_
      refine Tr.region ?_
      refine Tr.val (V.move rfl) rfl ?_
      refine Tr.val (V.addN (b := 1) rfl rfl (by omega)) rfl ?_
      refine Tr.val (V.assign rfl) rfl ?_
      refine Tr.lNil ?_
      refine Tr.thenN ?_
      refine Tr.region ?_
      refine Tr.val (V.move rfl) rfl ?_
      refine Tr.val (V.move rfl) rfl ?_
      refine Tr.val (V.idxA (j := (64 * i / 51 + 1)) (o' := (64 * i / 51 + 1)) Try.runUnderlying39 Try.sizeOf38 rfl rfl (by omega) (by omega) (by omega)) rfl ?_
      refine Tr.val (V.load1 Try.isAgg38 rfl (V.cellB (by repeat (first | exact List.Mem.head _ | apply List.Mem.tail)) (getU q (64 * i / 51 + 1) (by omega)))) rfl ?_
      refine Tr.val (V.move rfl) rfl ?_
      refine Tr.val (V.shl64 (s := 51 - 64 * i % 51) rfl rfl) rfl ?_
      refine Tr.val (V.or64 rfl rfl) rfl ?_
      refine Tr.val (V.assign rfl) rfl ?_
      refine Tr.lNil ?_
      refine Tr.inN ?_
      refine Tr.thenN ?_
      refine Tr.region ?_
      refine Tr.val (V.move rfl) rfl ?_
      refine Tr.val (V.addN (b := 51) rfl rfl (by omega)) rfl ?_
      refine Tr.val (V.assign rfl) rfl ?_
      refine Tr.lNil ?_
      exact Tr.again 1 (by omega) (by omega) (lk_cons rfl (lk_cons rfl (lk_cons rfl (lk_cons rfl (lk_cons rfl (lk_cons rfl (lk_cons rfl (lk_cons rfl (lk_nil _))))))))) (List.Sublist.refl _)
    · have h5 : i = 3 := by rcases (show i = 0 ∨ i = 1 ∨ i = 2 ∨ i = 3 by omega) with rfl | rfl | rfl | rfl <;> omega
      rw [show wordTo q i 1 = wordOf q i from rfl]
      refine Tr.seq ?_
      refine Tr.seq ?_
      refine Tr.region ?_
      refine Tr.val (V.move rfl) rfl ?_
      refine Tr.val (V.lss (b := true) rfl rfl (decide_eq_true (by omega))) rfl ?_
      refine Tr.val (V.move rfl) rfl ?_
      refine Tr.valG rfl (V.move rfl) rfl ?_
      refine Tr.valG rfl (V.addN (b := 1) rfl rfl (by omega)) rfl ?_
      refine Tr.valG rfl (V.lss (b := false) rfl rfl (decide_eq_false (by omega))) rfl ?_
      refine Tr.val (V.pick rfl rfl) rfl ?_
      refine Tr.lNil ?_
      refine Tr.thenN ?_
      refine Tr.condF rfl ?_
      refine Tr.exit ?_
      refine Tr.thenX ?_
      refine Tr.thenX ?_
      refine Tr.inHit ?_
      refine Tr.thenN ?_
      refine Tr.regionD [0, 1, 3, 0, 8, 31] [5] (.pure 0 (.pure 1 (.pure 2 (.pure 3 (.hard 4 (.hard 5 .done)))))) mixed (by kernel_rfl) ?_
      refine TrP.pure rfl (fun _ => V.move rfl) rfl ?_
      refine TrP.pure rfl (fun _ => V.mulN (a := 8) rfl rfl (by omega)) rfl ?_
      refine TrP.pure rfl (fun _ => V.sliceP (l := 8 * i) (h := 32) (o' := 8 * i) (m' := 32 - 8 * i) (c' := 32 - 8 * i) Try.runUnderlying23 Try.sizeOf5 rfl rfl rfl rfl rfl (by omega) (by omega) (by omega) (by omega) (by omega) (by omega)) rfl ?_
      refine TrP.pure rfl (fun _ => V.move rfl) rfl ?_
      refine TrP.hard rfl (W.call (val := fun x : Nat × Nat × List Value => .slice (some ⟨x.1, 0, none⟩) 8 x.2.1) (N := fun x => [⟨x.1, 5, (putL (wordOf q i) 8).map U8 ++ x.2.2⟩]) (Px := fun _ => True)  (args4 rfl rfl rfl rfl) Try.call32 rfl (fun w1 hw => by have h := put_nil 8 (wordOf q i) false w1 (by decide); rw [show effI 8 = 8 from by decide] at h; exact h.mono fun _ _ ⟨x, h1, h2, h3⟩ => ⟨x, h1, h2, trivial⟩) fun y _ => ?_)
      refine Tr.pOn (by first | exact List.Sublist.refl _ | exact List.sublist_cons_self _ _ | exact List.sublist_append_right _ _ | simp) ?_
      refine TrP.hard rfl (W.copy (d := 50) (q := 8) (cs := (bytesZ q i).map U8) (vs := (putL (wordOf q i) 8).map U8) (cs' := (bytesZ q (i + 1)).map U8) elem29 rfl rfl (RdP.headL (by repeat (first | exact List.Mem.head _ | apply List.Mem.tail))) (by rw [List.length_map, putL_len]) (one8 _) (Nat.min_eq_left (show 8 ≤ 32 - 8 * i by omega)).symm (by repeat (first | exact Upd.head | apply Upd.tail)) (by rw [List.length_map, hbz i (by omega)]; omega) (by rw [← bytesZ_put q i hlt, List.map_append, List.map_append, List.map_take, List.map_drop, List.take_of_length_le (l := (putL (wordOf q i) 8).map U8) (by rw [List.length_map, putL_len]; omega)]) (.inr ⟨rfl, rfl⟩) rfl ?_)
      refine Tr.pTail rfl ?_
      refine TrP.done ?_
      refine Tr.inN ?_
      refine Tr.thenN ?_
      refine Tr.region ?_
      refine Tr.val (V.add rfl rfl (by omega)) rfl ?_
      refine Tr.val (V.move rfl) rfl ?_
      refine Tr.lNil ?_
      exact Tr.again (i + 1) (by omega) (by omega) (lk_cons rfl (lk_cons rfl (lk_cons rfl (lk_nil _)))) (List.sublist_cons_self _ _)
    · rw [show wordTo q i 1 = wordOf q i from rfl]
      refine Tr.seq ?_
      refine Tr.seq ?_
      refine Tr.region ?_
      refine Tr.val (V.move rfl) rfl ?_
      refine Tr.val (V.lss (b := false) rfl rfl (decide_eq_false (by omega))) rfl ?_
      refine Tr.val (V.move rfl) rfl ?_
      refine Tr.skipG rfl rfl rfl ?_
      refine Tr.skipG rfl rfl rfl ?_
      refine Tr.skipG rfl rfl rfl ?_
      refine Tr.val (V.pick rfl rfl) rfl ?_
      refine Tr.lNil ?_
      refine Tr.thenN ?_
      refine Tr.condF rfl ?_
      refine Tr.exit ?_
      refine Tr.thenX ?_
      refine Tr.thenX ?_
      refine Tr.inHit ?_
      refine Tr.thenN ?_
      refine Tr.regionD [0, 1, 3, 0, 8, 31] [5] (.pure 0 (.pure 1 (.pure 2 (.pure 3 (.hard 4 (.hard 5 .done)))))) mixed (by kernel_rfl) ?_
      refine TrP.pure rfl (fun _ => V.move rfl) rfl ?_
      refine TrP.pure rfl (fun _ => V.mulN (a := 8) rfl rfl (by omega)) rfl ?_
      refine TrP.pure rfl (fun _ => V.sliceP (l := 8 * i) (h := 32) (o' := 8 * i) (m' := 32 - 8 * i) (c' := 32 - 8 * i) Try.runUnderlying23 Try.sizeOf5 rfl rfl rfl rfl rfl (by omega) (by omega) (by omega) (by omega) (by omega) (by omega)) rfl ?_
      refine TrP.pure rfl (fun _ => V.move rfl) rfl ?_
      refine TrP.hard rfl (W.call (val := fun x : Nat × Nat × List Value => .slice (some ⟨x.1, 0, none⟩) 8 x.2.1) (N := fun x => [⟨x.1, 5, (putL (wordOf q i) 8).map U8 ++ x.2.2⟩]) (Px := fun _ => True)  (args4 rfl rfl rfl rfl) Try.call32 rfl (fun w1 hw => by have h := put_nil 8 (wordOf q i) false w1 (by decide); rw [show effI 8 = 8 from by decide] at h; exact h.mono fun _ _ ⟨x, h1, h2, h3⟩ => ⟨x, h1, h2, trivial⟩) fun y _ => ?_)
      refine Tr.pOn (by first | exact List.Sublist.refl _ | exact List.sublist_cons_self _ _ | exact List.sublist_append_right _ _ | simp) ?_
      refine TrP.hard rfl (W.copy (d := 50) (q := 8) (cs := (bytesZ q i).map U8) (vs := (putL (wordOf q i) 8).map U8) (cs' := (bytesZ q (i + 1)).map U8) elem29 rfl rfl (RdP.headL (by repeat (first | exact List.Mem.head _ | apply List.Mem.tail))) (by rw [List.length_map, putL_len]) (one8 _) (Nat.min_eq_left (show 8 ≤ 32 - 8 * i by omega)).symm (by repeat (first | exact Upd.head | apply Upd.tail)) (by rw [List.length_map, hbz i (by omega)]; omega) (by rw [← bytesZ_put q i hlt, List.map_append, List.map_append, List.map_take, List.map_drop, List.take_of_length_le (l := (putL (wordOf q i) 8).map U8) (by rw [List.length_map, putL_len]; omega)]) (.inr ⟨rfl, rfl⟩) rfl ?_)
      refine Tr.pTail rfl ?_
      refine TrP.done ?_
      refine Tr.inN ?_
      refine Tr.thenN ?_
      refine Tr.region ?_
      refine Tr.val (V.add rfl rfl (by omega)) rfl ?_
      refine Tr.val (V.move rfl) rfl ?_
      refine Tr.lNil ?_
      exact Tr.again (i + 1) (by omega) (by omega) (lk_cons rfl (lk_cons rfl (lk_cons rfl (lk_nil _)))) (List.sublist_cons_self _ _)
  · simp only [decide_eq_false_iff_not] at hF0
    obtain rfl : i = 4 := by omega
    refine Tr.exit ?_
    refine Tr.thenX ?_
    refine Tr.thenX ?_
    refine Tr.inHit ?_
    refine Tr.thenN ?_
    refine Tr.seq ?_
    refine Tr.region ?_
    refine Tr.val (V.loadN (cs := (bytesZ q 4).map U8) Try.isAgg23 (by rw [List.length_map, hbz 4 (by omega)]; exact Try.sizeOf23) rfl (V.cellsB (by repeat (first | exact List.Mem.head _ | apply List.Mem.tail)))) rfl ?_
    refine Tr.op (W.storeAll (vs := (bytesZ q 4).map U8) (cs := (bytesZ q 4).map U8) Try.sizeOf23 rfl rfl (by rw [List.length_map, hbz 4 (by omega)]) (by rw [List.length_map, hbz 4 (by omega)]) (one8 _) (by repeat (first | exact Upd.head | apply Upd.tail)) ?_)
    refine Tr.lNil ?_
    refine Tr.thenN ?_
    refine Tr.ret ?_
    refine Tr.out1 rfl (Res.cellN (cs := (bytesZ q 4).map U8) rfl Try.isAgg23 (by rw [List.length_map, hbz 4 (by omega)]; exact Try.sizeOf23) (by repeat (first | exact List.Mem.head _ | apply List.Mem.tail))) fun w hw => ?_
    exact ⟨by rw [bytesL, ← hq, show bytesZ q 4 = bytesTo q 4 from List.append_nil _], hw.sub (List.nil_sublist _)⟩

end Go.Proofs.Ytgkndcincgpmdaa
