/-
  Contracts of hatchwayref02: Block, Stream. (Printed by a program of this session over its walk printer.)
-/
import Derived.Test.YtnhfmmohdiccgaaDoorRef2A
namespace Go.Proofs.YtnhfmmohdiccgaaDoor
open Go.Sym Plain
set_option linter.unusedVariables false
set_option maxRecDepth 20000

set_option maxRecDepth 20000 in
theorem block2_any (p p2 : Option Addr) (c c2 : Nat) (key : List (BitVec 8)) (ctr : BitVec 32) (nonce : List (BitVec 8)) (w : World) (hk : Bytes w p 32 c key) (hn : Bytes w p2 12 c2 nonce) :
    Calls Tryd.prog 17 [.slice p 32 c, U32 ctr, .slice p2 12 c2].toArray w fun r w' => ∃ x : Nat × Nat × List Value, r = .returned (.slice (some ⟨x.1, 0, none⟩) 64 x.2.1) ∧ Hp w [] [⟨x.1, 5, (blockL key ctr nonce).map U8 ++ x.2.2⟩] w' ∧ ((blockL key ctr nonce).map U8 ++ x.2.2).length = x.2.1 := by
  have hkl := hk.length
  have hnl := hn.length
  obtain ⟨s0, hs0⟩ : ∃ s0, s0 = firstL key ctr nonce := ⟨_, rfl⟩
  have hl0 : s0.length = 16 := by rw [hs0, firstL_len key ctr nonce hkl hnl]
  have hkw : (wordsL key).length = 8 := by rw [wordsL_len, hkl]
  have hnw : (wordsL nonce).length = 3 := by rw [wordsL_len, hnl]
  have hew : (wordsL expandB).length = 4 := rfl
  have hs0e : wordsL expandB ++ wordsL key ++ [ctr] ++ wordsL nonce = s0 := by rw [hs0, firstL_eq key ctr nonce hkl]
  refine Tr.enter Tryd.func17 rfl Tryd.ntmps17 rfl (Hp.refl w) ?_
  refine Tr.seq ?_
  refine Tr.region ?_
  refine Tr.val (V.assign rfl) rfl ?_
  refine Tr.lNil ?_
  refine Tr.thenN ?_
  refine Tr.seq ?_
  refine Tr.region ?_
  refine Tr.op (W.build (vs := (wordsL expandB).map V64) elem55 (fun a _ => by rw [words_expand]; simp [Act.eval, List.range'_succ]) rfl (fun v hv => by obtain ⟨b, _, rfl⟩ := List.mem_map.1 hv; rfl) (by omega) rfl fun g14 => ?_)
  refine Tr.val (V.assign rfl) rfl ?_
  refine Tr.lNil ?_
  refine Tr.thenN ?_
  refine Tr.seq ?_
  refine Tr.region ?_
  refine Tr.val (V.move rfl) rfl ?_
  refine Tr.val (V.move rfl) rfl ?_
  refine Tr.op (W.call (val := fun x : Nat × Nat × List Value => .slice (some ⟨x.1, 0, none⟩) 8 x.2.1) (N := fun x => [⟨x.1, 53, (wordsL key).map V64 ++ x.2.2⟩]) (Px := fun x => ((wordsL key).map V64 ++ x.2.2).length = x.2.1)  (args1 rfl) Tryd.call27 rfl (fun w1 hw => words2_any p 32 c key w1 (hk.now hw) (by omega)) fun y hy => ?_)
  refine Tr.op (W.append (m := 4) (k := 8) (xs := (wordsL expandB).map V64) (vs := (wordsL key).map V64) (junk := []) (L' := fun z => [⟨y.1, 53, (wordsL key).map V64 ++ y.2.2⟩, z]) elem55 rfl rfl (RdP.headL (by repeat (first | exact List.Mem.head _ | apply List.Mem.tail))) (by rw [List.length_map, hkw]) (oneV _) (fun z => .tail (.head)) (by rw [List.length_map]; exact hew) (by rw [List.append_nil]; rfl) (by omega) (by omega) rfl fun g18 c18 j18 hc18 => ?_)
  rw [← List.map_append] at hc18 ⊢
  refine Tr.val (V.assign rfl) rfl ?_
  refine Tr.lNil ?_
  refine Tr.thenN ?_
  refine Tr.seq ?_
  refine Tr.region ?_
  refine Tr.val (V.move rfl) rfl ?_
  refine Tr.val (V.move rfl) rfl ?_
  refine Tr.val (V.conv32_64 Tryd.runUnderlying24 Tryd.runUnderlying53 rfl) rfl ?_
  refine Tr.op (W.build (vs := [V64 ctr]) elem55 (W.parts1 rfl) rfl (by simp [Value.cells]) (by omega) rfl fun g22 => ?_)
  refine Tr.op (W.append (m := 12) (k := 1) (xs := (wordsL expandB ++ wordsL key).map V64) (vs := [V64 ctr]) (junk := j18) (L' := fun z => [⟨g22, 53, [V64 ctr]⟩, ⟨y.1, 53, (wordsL key).map V64 ++ y.2.2⟩, z]) elem55 rfl rfl (RdP.blk (cs := [V64 ctr]) (List.Mem.head _) 0 1) rfl (by simp [Value.oneCell']) (fun z => .tail (.tail (.head))) (by rw [List.length_map]; rw [List.length_append, hew, hkw]) hc18 (by omega) (by omega) rfl fun g23 c23 j23 hc23 => ?_)
  rw [show (wordsL expandB ++ wordsL key).map V64 ++ [V64 ctr] = (wordsL expandB ++ wordsL key ++ [ctr]).map V64 by rw [List.map_append (l₂ := [ctr])]; rfl] at hc23 ⊢
  refine Tr.val (V.assign rfl) rfl ?_
  refine Tr.lNil ?_
  refine Tr.thenN ?_
  refine Tr.seq ?_
  refine Tr.region ?_
  refine Tr.val (V.move rfl) rfl ?_
  refine Tr.val (V.move rfl) rfl ?_
  refine Tr.op (W.call (val := fun x : Nat × Nat × List Value => .slice (some ⟨x.1, 0, none⟩) 3 x.2.1) (N := fun x => [⟨x.1, 53, (wordsL nonce).map V64 ++ x.2.2⟩]) (Px := fun x => ((wordsL nonce).map V64 ++ x.2.2).length = x.2.1)  (args1 rfl) Tryd.call27 rfl (fun w1 hw => words2_any p2 12 c2 nonce w1 (hn.now hw) (by omega)) fun u hu => ?_)
  refine Tr.op (W.append (m := 13) (k := 3) (xs := (wordsL expandB ++ wordsL key ++ [ctr]).map V64) (vs := (wordsL nonce).map V64) (junk := j23) (L' := fun z => [⟨u.1, 53, (wordsL nonce).map V64 ++ u.2.2⟩, ⟨g22, 53, [V64 ctr]⟩, ⟨y.1, 53, (wordsL key).map V64 ++ y.2.2⟩, z]) elem55 rfl rfl (RdP.headL (by repeat (first | exact List.Mem.head _ | apply List.Mem.tail))) (by rw [List.length_map, hnw]) (oneV _) (fun z => .tail (.tail (.tail (.head)))) (by rw [List.length_map]; rw [List.length_append, List.length_append, hew, hkw]; rfl) hc23 (by omega) (by omega) rfl fun g27 c27 j27 hc27 => ?_)
  rw [← List.map_append, hs0e] at hc27 ⊢
  refine Tr.val (V.assign rfl) rfl ?_
  refine Tr.lNil ?_
  refine Tr.thenN ?_
  refine Tr.seq ?_
  refine Tr.region ?_
  refine Tr.op (W.build elem55 W.parts0 rfl (by simp) (by omega) rfl fun g28 => ?_)
  refine Tr.val (V.move rfl) rfl ?_
  refine Tr.op (W.append (m := 0) (k := 16) (xs := []) (vs := s0.map V64) (junk := []) (L' := fun z => [z, ⟨u.1, 53, (wordsL nonce).map V64 ++ u.2.2⟩, ⟨g22, 53, [V64 ctr]⟩, ⟨y.1, 53, (wordsL key).map V64 ++ y.2.2⟩, ⟨g27, 53, s0.map V64 ++ j27⟩]) elem55 rfl rfl (RdP.headL (by repeat (first | exact List.Mem.head _ | apply List.Mem.tail))) (by rw [List.length_map, hl0]) (oneV _) (fun z => .head) rfl rfl (by omega) (by omega) rfl fun g8 c8 j8 hc8 => ?_)
  rw [List.nil_append] at hc8 ⊢
  refine Tr.val (V.assign rfl) rfl ?_
  refine Tr.lNil ?_
  refine Tr.thenN ?_
  refine Tr.seq ?_
  refine Tr.seq ?_
  refine Tr.region ?_
  refine Tr.val (V.assign rfl) rfl ?_
  refine Tr.lNil ?_
  refine Tr.thenN ?_
  refine Tr.block ?_
  obtain ⟨g7, hg7⟩ : ∃ g, g = g27 := ⟨_, rfl⟩
  obtain ⟨c7, hc7⟩ : ∃ c, c = c27 := ⟨_, rfl⟩
  obtain ⟨j7, hj7⟩ : ∃ j, j = j27 := ⟨_, rfl⟩
  rw [← hg7, ← hc7, ← hj7]
  refine Tr.loop (ι := Nat) (fun i => i ≤ 10) (fun i => [(7, .slice (some ⟨g7, 0, none⟩) 16 c7), (8, .slice (some ⟨g8, 0, none⟩) 16 c8), (9, NV i)]) (fun i => [⟨g8, 53, s0.map V64 ++ j8⟩, ⟨g7, 53, (roundsTo s0 i).map V64 ++ j7⟩]) (fun i => 10 - i) 0 (Nat.zero_le _) (lk_cons rfl (lk_cons rfl (lk_cons rfl (lk_nil _)))) (.cons_cons _ (.cons _ (.cons _ (.cons _ (.cons_cons _ (List.nil_sublist _)))))) fun i hI => ?_
  refine Tr.seq ?_
  refine Tr.seq ?_
  refine Tr.region ?_
  refine Tr.val (V.move rfl) rfl ?_
  refine Tr.val (V.lss rfl rfl rfl) rfl ?_
  refine Tr.lNil ?_
  refine Tr.thenN ?_
  refine Tr.cond rfl (fun hT0 => ?_) (fun hF0 => ?_)
  · simp only [decide_eq_true_eq] at hT0
    have hlt : i < 10 := by omega
    refine Tr.skip ?_
    refine Tr.thenN ?_
    refine Tr.seq ?_
    refine Tr.block ?_
    refine Tr.seq ?_
    refine Tr.seq ?_
    refine Tr.region ?_
    refine Tr.val (V.assign rfl) rfl ?_
    refine Tr.lNil ?_
    refine Tr.thenN ?_
    refine Tr.block ?_
    refine Tr.loop (ι := Nat) (fun k => k ≤ 4) (fun k => [(7, .slice (some ⟨g7, 0, none⟩) 16 c7), (8, .slice (some ⟨g8, 0, none⟩) 16 c8), (9, NV i), (10, NV k)]) (fun k => [⟨g8, 53, s0.map V64 ++ j8⟩, ⟨g7, 53, (turnTo (roundsTo s0 i) k).map V64 ++ j7⟩]) (fun k => 4 - k) 0 (Nat.zero_le _) (lk_cons rfl (lk_cons rfl (lk_cons rfl (lk_cons rfl (lk_nil _))))) (List.Sublist.refl _) fun k hI => ?_
    refine Tr.seq ?_
    refine Tr.seq ?_
    refine Tr.region ?_
    refine Tr.val (V.move rfl) rfl ?_
    refine Tr.val (V.lss rfl rfl rfl) rfl ?_
    refine Tr.lNil ?_
    refine Tr.thenN ?_
    refine Tr.cond rfl (fun hT1 => ?_) (fun hF1 => ?_)
    · simp only [decide_eq_true_eq] at hT1
      have hlt : k < 4 := by omega
      refine Tr.skip ?_
      refine Tr.thenN ?_
      refine Tr.seq ?_
      refine Tr.block ?_
      refine Tr.region ?_
      refine Tr.val (V.move rfl) rfl ?_
      refine Tr.val (V.move rfl) rfl ?_
      refine Tr.val (V.move rfl) rfl ?_
      refine Tr.val (V.addN (a := 4) rfl rfl (by omega)) rfl ?_
      refine Tr.val (V.move rfl) rfl ?_
      refine Tr.val (V.addN (a := 8) rfl rfl (by omega)) rfl ?_
      refine Tr.val (V.move rfl) rfl ?_
      refine Tr.val (V.addN (a := 12) rfl rfl (by omega)) rfl ?_
      refine Tr.op (W.callM (x := ⟨g7, 53, (turnTo (roundsTo s0 i) k).map V64 ++ j7⟩) (y := ⟨g7, 53, (turnTo (roundsTo s0 i) (k + 1)).map V64 ++ j7⟩)  (args5 rfl rfl rfl rfl rfl) Tryd.call28 rfl (by repeat (first | exact Upd.head | apply Upd.tail)) rfl (fun w1 _ hb1 => by have h := quarter2_any g7 c7 (turnTo (roundsTo s0 i) k) j7 (k) (4 + k) (8 + k) (12 + k) w1 (by rw [turnTo_len, roundsTo_len, hl0]) (by omega) (by omega) (by omega) (by omega) (Hp.own1 hb1); rw [turn_low _ k hlt] at h; exact h) ?_)
      refine Tr.lNil ?_
      refine Tr.inN ?_
      refine Tr.thenN ?_
      refine Tr.region ?_
      refine Tr.val (V.move rfl) rfl ?_
      refine Tr.val (V.add rfl rfl (by omega)) rfl ?_
      refine Tr.val (V.assign rfl) rfl ?_
      refine Tr.lNil ?_
      exact Tr.again (k + 1) (by omega) (by omega) (lk_cons rfl (lk_cons rfl (lk_cons rfl (lk_cons rfl (lk_nil _))))) (List.Sublist.refl _)
    · simp only [decide_eq_false_iff_not] at hF1
      obtain rfl : k = 4 := by omega
      refine Tr.exit ?_
      refine Tr.thenX ?_
      refine Tr.thenX ?_
      refine Tr.inHit ?_
      refine Tr.thenN ?_
      refine Tr.seq ?_
      refine Tr.region ?_
      refine Tr.val (V.assign rfl) rfl ?_
      refine Tr.lNil ?_
      refine Tr.thenN ?_
      refine Tr.block ?_
      refine Tr.loop (ι := Nat) (fun k => k ≤ 4) (fun k => [(7, .slice (some ⟨g7, 0, none⟩) 16 c7), (8, .slice (some ⟨g8, 0, none⟩) 16 c8), (9, NV i), (11, NV k)]) (fun k => [⟨g8, 53, s0.map V64 ++ j8⟩, ⟨g7, 53, (turnTo (roundsTo s0 i) (4 + k)).map V64 ++ j7⟩]) (fun k => 4 - k) 0 (Nat.zero_le _) (lk_cons rfl (lk_cons rfl (lk_cons rfl (lk_cons rfl (lk_nil _))))) (List.Sublist.refl _) fun k hI => ?_
      refine Tr.seq ?_
      refine Tr.seq ?_
      refine Tr.region ?_
      refine Tr.val (V.move rfl) rfl ?_
      refine Tr.val (V.lss rfl rfl rfl) rfl ?_
      refine Tr.lNil ?_
      refine Tr.thenN ?_
      refine Tr.cond rfl (fun hT2 => ?_) (fun hF2 => ?_)
      · simp only [decide_eq_true_eq] at hT2
        have hlt : k < 4 := by omega
        refine Tr.skip ?_
        refine Tr.thenN ?_
        refine Tr.seq ?_
        refine Tr.block ?_
        refine Tr.region ?_
        refine Tr.val (V.move rfl) rfl ?_
        refine Tr.val (V.move rfl) rfl ?_
        refine Tr.val (V.move rfl) rfl ?_
        refine Tr.val (V.addN (b := 1) rfl rfl (by omega)) rfl ?_
        refine Tr.val (V.remN (b := 4) rfl rfl (by omega)) rfl ?_
        refine Tr.val (V.addN (a := 4) rfl rfl (by omega)) rfl ?_
        refine Tr.val (V.move rfl) rfl ?_
        refine Tr.val (V.addN (b := 2) rfl rfl (by omega)) rfl ?_
        refine Tr.val (V.remN (b := 4) rfl rfl (by omega)) rfl ?_
        refine Tr.val (V.addN (a := 8) rfl rfl (by omega)) rfl ?_
        refine Tr.val (V.move rfl) rfl ?_
        refine Tr.val (V.addN (b := 3) rfl rfl (by omega)) rfl ?_
        refine Tr.val (V.remN (b := 4) rfl rfl (by omega)) rfl ?_
        refine Tr.val (V.addN (a := 12) rfl rfl (by omega)) rfl ?_
        refine Tr.op (W.callM (x := ⟨g7, 53, (turnTo (roundsTo s0 i) (4 + k)).map V64 ++ j7⟩) (y := ⟨g7, 53, (turnTo (roundsTo s0 i) (4 + (k + 1))).map V64 ++ j7⟩)  (args5 rfl rfl rfl rfl rfl) Tryd.call28 rfl (by repeat (first | exact Upd.head | apply Upd.tail)) rfl (fun w1 _ hb1 => by have h := quarter2_any g7 c7 (turnTo (roundsTo s0 i) (4 + k)) j7 (k) (4 + (k + 1) % 4) (8 + (k + 2) % 4) (12 + (k + 3) % 4) w1 (by rw [turnTo_len, roundsTo_len, hl0]) (by omega) (by omega) (by omega) (by omega) (Hp.own1 hb1); rw [turn_high _ k hlt] at h; exact h) ?_)
        refine Tr.lNil ?_
        refine Tr.inN ?_
        refine Tr.thenN ?_
        refine Tr.region ?_
        refine Tr.val (V.move rfl) rfl ?_
        refine Tr.val (V.add rfl rfl (by omega)) rfl ?_
        refine Tr.val (V.assign rfl) rfl ?_
        refine Tr.lNil ?_
        exact Tr.again (k + 1) (by omega) (by omega) (lk_cons rfl (lk_cons rfl (lk_cons rfl (lk_cons rfl (lk_nil _))))) (List.Sublist.refl _)
      · simp only [decide_eq_false_iff_not] at hF2
        obtain rfl : k = 4 := by omega
        refine Tr.exit ?_
        refine Tr.thenX ?_
        refine Tr.thenX ?_
        refine Tr.inHit ?_
        refine Tr.inN ?_
        refine Tr.thenN ?_
        refine Tr.region ?_
        refine Tr.val (V.move rfl) rfl ?_
        refine Tr.val (V.add rfl rfl (by omega)) rfl ?_
        refine Tr.val (V.assign rfl) rfl ?_
        refine Tr.lNil ?_
        exact Tr.again (i + 1) (by omega) (by omega) (lk_cons rfl (lk_cons rfl (lk_cons rfl (lk_nil _)))) (List.Sublist.refl _)
  · simp only [decide_eq_false_iff_not] at hF0
    obtain rfl : i = 10 := by omega
    obtain ⟨S, hS⟩ : ∃ S, S = roundsTo s0 10 := ⟨_, rfl⟩
    have hSl : S.length = 16 := by rw [hS, roundsTo_len, hl0]
    rw [← hS]
    refine Tr.exit ?_
    refine Tr.thenX ?_
    refine Tr.thenX ?_
    refine Tr.inHit ?_
    refine Tr.thenN ?_
    refine Tr.seq ?_
    refine Tr.region ?_
    refine Tr.op (W.build elem27 W.parts0 rfl (by simp) (by omega) rfl fun g67 => ?_)
    refine Tr.val (V.assign rfl) rfl ?_
    refine Tr.lNil ?_
    refine Tr.thenN ?_
    refine Tr.seq ?_
    refine Tr.seq ?_
    refine Tr.region ?_
    refine Tr.val (V.assign rfl) rfl ?_
    refine Tr.lNil ?_
    refine Tr.thenN ?_
    refine Tr.block ?_
    refine Tr.loop (ι := Nat × Nat × Nat × List Value) (fun x => x.1 ≤ 16 ∧ ((outTo S s0 x.1).map U8 ++ x.2.2.2).length = x.2.2.1) (fun x => [(7, .slice (some ⟨g7, 0, none⟩) 16 c7), (8, .slice (some ⟨g8, 0, none⟩) 16 c8), (12, .slice (some ⟨x.2.1, 0, none⟩) (4 * x.1) x.2.2.1), (13, NV x.1)]) (fun x => [⟨x.2.1, 5, (outTo S s0 x.1).map U8 ++ x.2.2.2⟩, ⟨g8, 53, s0.map V64 ++ j8⟩, ⟨g7, 53, S.map V64 ++ j7⟩]) (fun x => 16 - x.1) (0, g67, 0, []) ⟨Nat.zero_le _, rfl⟩ (lk_cons rfl (lk_cons rfl (lk_cons rfl (lk_cons rfl (lk_nil _))))) (List.Sublist.refl _) fun x hI => ?_
    obtain ⟨i, g, cg, jg⟩ := x
    obtain ⟨hi, hok⟩ := hI
    simp only at hi hok ⊢
    refine Tr.seq ?_
    refine Tr.seq ?_
    refine Tr.region ?_
    refine Tr.val (V.move rfl) rfl ?_
    refine Tr.val (V.lss rfl rfl rfl) rfl ?_
    refine Tr.lNil ?_
    refine Tr.thenN ?_
    refine Tr.cond rfl (fun hT3 => ?_) (fun hF3 => ?_)
    · simp only [decide_eq_true_eq] at hT3
      have hlt : i < 16 := by omega
      refine Tr.skip ?_
      refine Tr.thenN ?_
      refine Tr.seq ?_
      refine Tr.block ?_
      refine Tr.regionD [0, 0, 0, 6, 14, 0, 0, 96, 224, 510, 1023, 2047] [] (.pure 0 (.pure 1 (.pure 2 (.pure 3 (.soft 4 (.pure 5 (.pure 6 (.pure 7 (.soft 8 (.pure 9 (.hard 10 (.pure 11 .done)))))))))))) mixed (by kernel_rfl) ?_
      refine TrP.pure rfl (fun _ => V.move rfl) rfl ?_
      refine TrP.pure rfl (fun _ => V.move rfl) rfl ?_
      refine TrP.pure rfl (fun _ => V.move rfl) rfl ?_
      refine TrP.pure rfl (fun _ => V.idxO (j := i) (o' := i) Tryd.runUnderlying55 Tryd.sizeOf53 rfl rfl rfl (by omega) (by omega)) rfl ?_
      refine TrP.soft rfl (V.load1 Tryd.isAgg53 rfl (V.cellB (by repeat (first | exact List.Mem.head _ | apply List.Mem.tail)) (by rw [List.getElem?_append_left (by rw [List.length_map]; omega)]; exact getV S i (by omega)))) rfl ?_
      refine TrP.pure rfl (fun _ => V.move rfl) rfl ?_
      refine TrP.pure rfl (fun _ => V.move rfl) rfl ?_
      refine TrP.pure rfl (fun _ => V.idxO (j := i) (o' := i) Tryd.runUnderlying55 Tryd.sizeOf53 rfl rfl rfl (by omega) (by omega)) rfl ?_
      refine TrP.soft rfl (V.load1 Tryd.isAgg53 rfl (V.cellB (by repeat (first | exact List.Mem.head _ | apply List.Mem.tail)) (by rw [List.getElem?_append_left (by rw [List.length_map]; omega)]; exact getV s0 i (by omega)))) rfl ?_
      refine TrP.pure rfl (fun _ => V.add64 rfl rfl) rfl ?_
      refine TrP.hard rfl (W.call (val := fun x : Nat × Nat × List Value => .slice (some ⟨x.1, 0, none⟩) (4 * i + 4) x.2.1) (N := fun x => [⟨x.1, 5, (outTo S s0 (i + 1)).map U8 ++ x.2.2⟩]) (Px := fun x => ((outTo S s0 (i + 1)).map U8 ++ x.2.2).length = x.2.1)  (args4 rfl rfl rfl rfl) Tryd.call29 rfl (fun w1 hw => by have h := rput_any (some ⟨g, 0, none⟩) (4 * i) cg (outTo S s0 i) 4 ((S.getD i 0#32).setWidth 64 + (s0.getD i 0#32).setWidth 64) false w1 ((RdP.headL (by repeat (first | exact List.Mem.head _ | apply List.Mem.tail))).now hw) (outTo_len _ _ _) (by omega); rw [show effI 4 = 4 from by decide, show putW false ((S.getD i 0#32).setWidth 64 + (s0.getD i 0#32).setWidth 64) 4 = outAt S s0 i from put_sum _ _] at h; exact h) fun v hv => ?_)
      refine Tr.pOn (by first | exact List.Sublist.refl _ | exact List.sublist_cons_self _ _ | exact List.sublist_append_right _ _ | simp) ?_
      refine TrP.pure rfl (fun _ => V.assign rfl) rfl ?_
      refine TrP.done ?_
      refine Tr.inN ?_
      refine Tr.thenN ?_
      refine Tr.region ?_
      refine Tr.val (V.move rfl) rfl ?_
      refine Tr.val (V.add rfl rfl (by omega)) rfl ?_
      refine Tr.val (V.assign rfl) rfl ?_
      refine Tr.lNil ?_
      exact Tr.again (i + 1, v.1, v.2.1, v.2.2) ⟨by simp only; omega, hv⟩ (by simp only; omega) (lk_cons rfl (lk_cons rfl (lk_cons rfl (lk_cons rfl (lk_nil _))))) (.cons_cons _ (List.sublist_cons_self _ _))
    · simp only [decide_eq_false_iff_not] at hF3
      obtain rfl : i = 16 := by omega
      have hB : outTo S s0 16 = blockL key ctr nonce := by rw [hS, hs0]; rfl
      rw [hB] at hok ⊢
      refine Tr.exit ?_
      refine Tr.thenX ?_
      refine Tr.thenX ?_
      refine Tr.inHit ?_
      refine Tr.thenN ?_
      refine Tr.seq ?_
      refine Tr.region ?_
      refine Tr.val (V.move rfl) rfl ?_
      refine Tr.val (V.assign rfl) rfl ?_
      refine Tr.lNil ?_
      refine Tr.thenN ?_
      refine Tr.ret ?_
      refine Tr.out1 rfl (Res.tmp rfl) fun w hw => ?_
      exact ⟨⟨g, cg, jg⟩, rfl, hw.sub (.cons_cons _ (List.nil_sublist _)), hok⟩

set_option maxRecDepth 20000 in
theorem stream2_any (p p2 p3 : Option Addr) (c c2 m3 c3 : Nat) (key : List (BitVec 8)) (ctr : BitVec 32) (nonce b : List (BitVec 8)) (w : World) (hk : Bytes w p 32 c key) (hn : Bytes w p2 12 c2 nonce) (hb : Bytes w p3 m3 c3 b) (hm : m3 ≤ 100000) :
    Calls Tryd.prog 18 [.slice p 32 c, U32 ctr, .slice p2 12 c2, .slice p3 m3 c3].toArray w fun r w' => ∃ x : Nat × Nat × List Value, r = .returned (.slice (some ⟨x.1, 0, none⟩) m3 x.2.1) ∧ Hp w [] [⟨x.1, 5, (streamL key ctr nonce b).map U8 ++ x.2.2⟩] w' ∧ ((streamL key ctr nonce b).map U8 ++ x.2.2).length = x.2.1 := by
  have hbl := hb.length
  have hsl : (streamL key ctr nonce b).length = m3 := by rw [streamL_len, hbl]
  refine Tr.enter Tryd.func18 rfl Tryd.ntmps18 rfl (Hp.refl w) ?_
  refine Tr.seq ?_
  refine Tr.region ?_
  refine Tr.val (V.assign rfl) rfl ?_
  refine Tr.lNil ?_
  refine Tr.thenN ?_
  refine Tr.seq ?_
  refine Tr.region ?_
  refine Tr.op (W.build elem27 W.parts0 rfl (by simp) (by omega) rfl fun g12 => ?_)
  refine Tr.val (V.assign rfl) rfl ?_
  refine Tr.lNil ?_
  refine Tr.thenN ?_
  refine Tr.seq ?_
  refine Tr.seq ?_
  refine Tr.region ?_
  refine Tr.val (V.assign rfl) rfl ?_
  refine Tr.lNil ?_
  refine Tr.thenN ?_
  refine Tr.block ?_
  refine Tr.loop (ι := Nat × Nat × Nat × List Value) (fun x => 64 * x.1 ≤ m3 + 63 ∧ (((streamL key ctr nonce b).take (64 * x.1)).map U8 ++ x.2.2.2).length = x.2.2.1) (fun x => [(0, .slice p 32 c), (1, U32 ctr), (2, .slice p2 12 c2), (3, .slice p3 m3 c3), (9, .slice (some ⟨x.2.1, 0, none⟩) ((streamL key ctr nonce b).take (64 * x.1)).length x.2.2.1), (10, NV (64 * x.1))]) (fun x => [⟨x.2.1, 5, ((streamL key ctr nonce b).take (64 * x.1)).map U8 ++ x.2.2.2⟩]) (fun x => m3 + 64 - 64 * x.1) (0, g12, 0, []) ⟨Nat.zero_le _, by simp⟩ (lk_cons rfl (lk_cons rfl (lk_cons rfl (lk_cons rfl (lk_cons (congrArg some (by simp)) (lk_cons rfl (lk_nil _))))))) (by simp) fun x hI => ?_
  obtain ⟨k, g, cq, junk⟩ := x
  obtain ⟨hk63, hok⟩ := hI
  simp only at hk63 hok ⊢
  have htl : ((streamL key ctr nonce b).take (64 * k)).length ≤ m3 := by rw [List.length_take, hsl]; omega
  have h64 : 64 * k / 64 = k := by omega
  refine Tr.seq ?_
  refine Tr.seq ?_
  refine Tr.region ?_
  refine Tr.val (V.move rfl) rfl ?_
  refine Tr.val (V.move rfl) rfl ?_
  refine Tr.val (V.len Tryd.runUnderlying27 rfl) rfl ?_
  refine Tr.val (V.lss rfl rfl rfl) rfl ?_
  refine Tr.lNil ?_
  refine Tr.thenN ?_
  refine Tr.cond rfl (fun hT0 => ?_) (fun hF0 => ?_)
  · simp only [decide_eq_true_eq] at hT0
    have hlt : 64 * k < m3 := by omega
    obtain ⟨e, he⟩ : ∃ e, e = Nat.min (64 * k + 64) m3 := ⟨_, rfl⟩
    have he1 : e ≤ m3 := by rw [he]; exact Nat.min_le_right _ _
    have he2 : e ≤ 64 * k + 64 := by rw [he]; exact Nat.min_le_left _ _
    have he3 : 64 * k ≤ e := by rw [he]; exact Nat.le_min.2 ⟨by omega, by omega⟩
    have hpart : Bytes w (if c3 = 64 * k then p3 else p3.map (·.add (64 * k))) (e - 64 * k) (c3 - 64 * k) ((b.drop (64 * k)).take (e - 64 * k)) := (hb.drop (64 * k) (by omega)).part (by omega)
    have hxc : xorL ((b.drop (64 * k)).take (e - 64 * k)) (blockL key (ctr + BitVec.ofNat 32 k) nonce) = (xorL (b.drop (64 * k)) (blockL key (ctr + BitVec.ofNat 32 k) nonce)) := xor_cut _ _ _ (by
      rcases Nat.le_total (64 * k + 64) m3 with h | h
      · left
        have : e = 64 * k + 64 := by rw [he]; exact Nat.min_eq_left h
        rw [blockL_len]; omega
      · right
        have : e = m3 := by rw [he]; exact Nat.min_eq_right h
        rw [List.length_drop]; omega)
    have hxl : (xorL (b.drop (64 * k)) (blockL key (ctr + BitVec.ofNat 32 k) nonce)).length ≤ 64 := by rw [xor_len64 _ _ (blockL_len _ _ _)]; exact Nat.min_le_right _ _
    have hlen : ((streamL key ctr nonce b).take (64 * (k + 1))).length = ((streamL key ctr nonce b).take (64 * k)).length + (xorL (b.drop (64 * k)) (blockL key (ctr + BitVec.ofNat 32 k) nonce)).length := by rw [← streamL_step, List.length_append]
    refine Tr.skip ?_
    refine Tr.thenN ?_
    refine Tr.seq ?_
    refine Tr.block ?_
    refine Tr.seq ?_
    refine Tr.region ?_
    refine Tr.val (V.move rfl) rfl ?_
    refine Tr.val (V.move rfl) rfl ?_
    refine Tr.val (V.move rfl) rfl ?_
    refine Tr.val (V.eqN h64 (V.quoN (b := 64) rfl rfl (by omega) (by omega))) rfl ?_
    refine Tr.val (V.convN_32 (a := k) Tryd.runUnderlying3 Tryd.runUnderlying24 rfl) rfl ?_
    refine Tr.val (V.add32 rfl rfl) rfl ?_
    refine Tr.val (V.move rfl) rfl ?_
    refine Tr.op (W.call (val := fun x : Nat × Nat × List Value => .slice (some ⟨x.1, 0, none⟩) 64 x.2.1) (N := fun x => [⟨x.1, 5, (blockL key (ctr + BitVec.ofNat 32 k) nonce).map U8 ++ x.2.2⟩]) (Px := fun x => ((blockL key (ctr + BitVec.ofNat 32 k) nonce).map U8 ++ x.2.2).length = x.2.1)  (args3 rfl rfl rfl) Tryd.call17 rfl (fun w1 hw => block2_any p p2 c c2 key (ctr + BitVec.ofNat 32 k) nonce w1 (hk.now hw) (hn.now hw)) fun y hy => ?_)
    refine Tr.val (V.assign rfl) rfl ?_
    refine Tr.lNil ?_
    refine Tr.thenN ?_
    refine Tr.region ?_
    refine Tr.val (V.move rfl) rfl ?_
    refine Tr.val (V.move rfl) rfl ?_
    refine Tr.val (V.move rfl) rfl ?_
    refine Tr.val (V.move rfl) rfl ?_
    refine Tr.val (V.addN (b := 64) rfl rfl (by omega)) rfl ?_
    refine Tr.val (V.move rfl) rfl ?_
    refine Tr.val (V.len Tryd.runUnderlying27 rfl) rfl ?_
    refine Tr.val ((by rw [he]; exact V.minN rfl rfl : VOp Tryd.prog _ _ _ _ _ _ _ (.int .i64 (e : Int)))) rfl ?_
    refine Tr.val (V.sliceS (l := 64 * k) (h := e) Tryd.runUnderlying27 Tryd.sizeOf5 rfl rfl rfl rfl rfl (by omega) (by have := hb.le; omega)) rfl ?_
    refine Tr.val (V.move rfl) rfl ?_
    refine Tr.op (W.call (val := fun x : Nat × Nat × List Value => .slice (some ⟨x.1, 0, none⟩) (xorL (b.drop (64 * k)) (blockL key (ctr + BitVec.ofNat 32 k) nonce)).length x.2.1) (N := fun x => [⟨x.1, 5, (xorL (b.drop (64 * k)) (blockL key (ctr + BitVec.ofNat 32 k) nonce)).map U8 ++ x.2.2⟩]) (Px := fun _ => True)  (args2 rfl rfl) Tryd.call30 rfl (fun w1 hw => by have h := rxor_any (if c3 = 64 * k then p3 else p3.map (·.add (64 * k))) (some ⟨y.1, 0, none⟩) (e - 64 * k) (c3 - 64 * k) 64 y.2.1 ((b.drop (64 * k)).take (e - 64 * k)) (blockL key (ctr + BitVec.ofNat 32 k) nonce) w1 (hpart.old.now hw) ((RdP.headL (List.Mem.head _)).now hw) hpart.length (blockL_len _ _ _) (by omega) (by omega); rw [hxc] at h; exact h.mono fun _ _ ⟨x, h⟩ => ⟨x, h.1, h.2.1, trivial⟩) fun u _ => ?_)
    refine Tr.op (W.append (xs := ((streamL key ctr nonce b).take (64 * k)).map U8) (vs := (xorL (b.drop (64 * k)) (blockL key (ctr + BitVec.ofNat 32 k) nonce)).map U8) (junk := junk) (L' := fun z => [⟨u.1, 5, (xorL (b.drop (64 * k)) (blockL key (ctr + BitVec.ofNat 32 k) nonce)).map U8 ++ u.2.2⟩, ⟨y.1, 5, (blockL key (ctr + BitVec.ofNat 32 k) nonce).map U8 ++ y.2.2⟩, z]) elem27 rfl rfl (RdP.headL (List.Mem.head _)) (by rw [List.length_map]) (one8 _) (fun z => .tail (.tail .head)) (by rw [List.length_map]) hok (by omega) (by omega) rfl fun g' c' junk' hc' => ?_)
    rw [← List.map_append, streamL_step] at hc' ⊢
    refine Tr.val (V.assign rfl) rfl ?_
    refine Tr.lNil ?_
    refine Tr.inN ?_
    refine Tr.thenN ?_
    refine Tr.region ?_
    refine Tr.val (V.move rfl) rfl ?_
    refine Tr.val (V.addN (b := 64) rfl rfl (by omega)) rfl ?_
    refine Tr.val (V.assign rfl) rfl ?_
    refine Tr.lNil ?_
    exact Tr.again (k + 1, g', c', junk') ⟨by simp only; omega, hc'⟩ (by simp only; omega) (lk_cons rfl (lk_cons rfl (lk_cons rfl (lk_cons rfl (lk_cons (by rw [hlen]; rfl) (lk_cons rfl (lk_nil _))))))) (.cons _ (.cons _ (List.Sublist.refl _)))
  · simp only [decide_eq_false_iff_not] at hF0
    have hall : (streamL key ctr nonce b).take (64 * k) = (streamL key ctr nonce b) := List.take_of_length_le (by omega)
    rw [hall] at hok ⊢
    rw [hsl]
    refine Tr.exit ?_
    refine Tr.thenX ?_
    refine Tr.thenX ?_
    refine Tr.inHit ?_
    refine Tr.thenN ?_
    refine Tr.seq ?_
    refine Tr.region ?_
    refine Tr.val (V.move rfl) rfl ?_
    refine Tr.val (V.assign rfl) rfl ?_
    refine Tr.lNil ?_
    refine Tr.thenN ?_
    refine Tr.ret ?_
    refine Tr.out1 rfl (Res.tmp rfl) fun w hw => ?_
    exact ⟨⟨g, cq, junk⟩, rfl, hw, hok⟩

end Go.Proofs.YtnhfmmohdiccgaaDoor
