/-
  Contracts of package chacha: quarter, first. (Printed by a program of this session over its walk printer.)
-/
import Derived.Test.YtnhfmmohdiccgaaDoorSymL
import Derived.Test.YtnhfmmohdiccgaaDoorPlainChacha
import Derived.Test.YtnhfmmohdiccgaaDoorFacts
import Derived.Test.YtnhfmmohdiccgaaDoorWordsB
import Derived.Test.YtnhfmmohdiccgaaDoorAny1
namespace Go.Proofs.YtnhfmmohdiccgaaDoor
open Go.Sym Plain
set_option linter.unusedVariables false

set_option maxRecDepth 20000 in
theorem quarter_any (g : Nat) (s : W32) (a b c d : Nat) (w : World) (hs : s.length = 16) (ha : a < 16) (hb : b < 16) (hc : c < 16) (hd : d < 16) (h : Hp w [g] [⟨g, 47, s.map U32⟩] w) :
    Calls Tryd.prog 24 [.pointer (some ⟨g, 0, none⟩), .agg ([a, b, c, d].map NV).toArray].toArray w fun r w' => r = .returned (.tuple #[]) ∧ Hp w [g] [⟨g, 47, (quarterL s a b c d).map U32⟩] w' := by
  refine Tr.enter Tryd.func24 rfl Tryd.ntmps24 rfl h ?_
  refine Tr.seq ?_
  refine Tr.region ?_
  refine Tr.op (W.box (cs := [a, b, c, d].map NV) rfl rfl rfl fun g3 => ?_)
  refine Tr.lNil ?_
  refine Tr.thenN ?_
  refine Tr.seq ?_
  refine Tr.regionD [0, 0, 2, 1, 15, 0, 0, 64, 32, 480, 0, 0, 2048, 1024, 15360, 0, 0, 65536, 32768, 491520, 31, 1049599, 3178495, 8388607] [] (.pure 0 (.pure 1 (.soft 2 (.pure 3 (.pure 4 (.pure 5 (.pure 6 (.soft 7 (.pure 8 (.pure 9 (.pure 10 (.pure 11 (.soft 12 (.pure 13 (.pure 14 (.pure 15 (.pure 16 (.soft 17 (.pure 18 (.pure 19 (.pure 20 (.pure 21 (.pure 22 (.pure 23 .done)))))))))))))))))))))))) mixed (by kernel_rfl) ?_
  refine TrP.pure rfl (fun _ => V.move rfl) rfl ?_
  refine TrP.pure rfl (fun _ => V.idxA (j := 0) (o' := 0) Tryd.runUnderlying49 Tryd.sizeOf3 rfl rfl rfl (by omega) rfl) rfl ?_
  refine TrP.soft rfl (V.load1 Tryd.isAgg3 rfl (V.cellB (by repeat (first | exact List.Mem.head _ | apply List.Mem.tail)) rfl)) rfl ?_
  refine TrP.pure rfl (fun _ => V.nilCheck rfl) rfl ?_
  refine TrP.pure rfl (fun _ => V.idxA (j := a) (o' := a) Tryd.runUnderlying47 Tryd.sizeOf24 rfl rfl rfl (by omega) (by omega)) rfl ?_
  refine TrP.pure rfl (fun _ => V.move rfl) rfl ?_
  refine TrP.pure rfl (fun _ => V.idxA (j := 1) (o' := 1) Tryd.runUnderlying49 Tryd.sizeOf3 rfl rfl rfl (by omega) rfl) rfl ?_
  refine TrP.soft rfl (V.load1 Tryd.isAgg3 rfl (V.cellB (by repeat (first | exact List.Mem.head _ | apply List.Mem.tail)) rfl)) rfl ?_
  refine TrP.pure rfl (fun _ => V.nilCheck rfl) rfl ?_
  refine TrP.pure rfl (fun _ => V.idxA (j := b) (o' := b) Tryd.runUnderlying47 Tryd.sizeOf24 rfl rfl rfl (by omega) (by omega)) rfl ?_
  refine TrP.pure rfl (fun _ => V.move rfl) rfl ?_
  refine TrP.pure rfl (fun _ => V.idxA (j := 2) (o' := 2) Tryd.runUnderlying49 Tryd.sizeOf3 rfl rfl rfl (by omega) rfl) rfl ?_
  refine TrP.soft rfl (V.load1 Tryd.isAgg3 rfl (V.cellB (by repeat (first | exact List.Mem.head _ | apply List.Mem.tail)) rfl)) rfl ?_
  refine TrP.pure rfl (fun _ => V.nilCheck rfl) rfl ?_
  refine TrP.pure rfl (fun _ => V.idxA (j := c) (o' := c) Tryd.runUnderlying47 Tryd.sizeOf24 rfl rfl rfl (by omega) (by omega)) rfl ?_
  refine TrP.pure rfl (fun _ => V.move rfl) rfl ?_
  refine TrP.pure rfl (fun _ => V.idxA (j := 3) (o' := 3) Tryd.runUnderlying49 Tryd.sizeOf3 rfl rfl rfl (by omega) rfl) rfl ?_
  refine TrP.soft rfl (V.load1 Tryd.isAgg3 rfl (V.cellB (by repeat (first | exact List.Mem.head _ | apply List.Mem.tail)) rfl)) rfl ?_
  refine TrP.pure rfl (fun _ => V.nilCheck rfl) rfl ?_
  refine TrP.pure rfl (fun _ => V.idxA (j := d) (o' := d) Tryd.runUnderlying47 Tryd.sizeOf24 rfl rfl rfl (by omega) (by omega)) rfl ?_
  refine TrP.pure rfl (fun _ => V.assign rfl) rfl ?_
  refine TrP.pure rfl (fun _ => V.assign rfl) rfl ?_
  refine TrP.pure rfl (fun _ => V.assign rfl) rfl ?_
  refine TrP.pure rfl (fun _ => V.assign rfl) rfl ?_
  refine TrP.done ?_
  refine Tr.thenN ?_
  refine Tr.seq ?_
  refine Tr.region ?_
  refine Tr.val ((V.buildA (vs := [(0, NV 16), (1, NV 12)]) (cs := [NV 16, NV 12].toArray) Tryd.runUnderlying69 Tryd.sizeOf3 Tryd.zeroValue69 (fun a he => by simp [Act.eval]) rfl)) rfl ?_
  refine Tr.val ((V.buildA (vs := [(0, NV 8), (1, NV 7)]) (cs := [NV 8, NV 7].toArray) Tryd.runUnderlying69 Tryd.sizeOf3 Tryd.zeroValue69 (fun a he => by simp [Act.eval]) rfl)) rfl ?_
  refine Tr.val ((V.buildAN (sz := 2) (vs := [(0, .agg [NV 16, NV 12].toArray), (1, .agg [NV 8, NV 7].toArray)]) (cs := [NV 16, NV 12, NV 8, NV 7].toArray) Tryd.runUnderlying70 Tryd.sizeOf69 Tryd.zeroValue70 (fun a he => by simp [he.eval (x := .tmp 30) (v := .agg [NV 16, NV 12].toArray) rfl, he.eval (x := .tmp 31) (v := .agg [NV 8, NV 7].toArray) rfl]) rfl)) rfl ?_
  refine Tr.val (V.move rfl) rfl ?_
  refine Tr.lNil ?_
  refine Tr.thenN ?_
  refine Tr.block ?_
  refine Tr.loop (ι := Nat) (fun k => k ≤ 2) (fun k => [(4, .pointer (some ⟨g, a, none⟩)), (5, .pointer (some ⟨g, b, none⟩)), (6, .pointer (some ⟨g, c, none⟩)), (7, .pointer (some ⟨g, d, none⟩)), (32, .agg [NV 16, NV 12, NV 8, NV 7].toArray), (33, NV k)]) (fun k => [⟨g, 47, (qsteps s a b c d k).map U32⟩]) (fun k => 2 - k) 0 (Nat.zero_le _) (lk_cons rfl (lk_cons rfl (lk_cons rfl (lk_cons rfl (lk_cons rfl (lk_cons rfl (lk_nil _))))))) (List.sublist_cons_self _ _) fun k hI => ?_
  have h3 : k = 0 ∨ k = 1 ∨ k = 2 := by omega
  rcases h3 with rfl | rfl | rfl
  · obtain ⟨s0, hs0⟩ : ∃ s0, s0 = qsteps s a b c d 0 := ⟨_, rfl⟩
    have hl0 : s0.length = 16 := by rw [hs0, qsteps_len, hs]
    rw [← hs0]
    obtain ⟨s1, hs1⟩ : ∃ s1, s1 = s0.set a (s0.getD a 0#32 + s0.getD b 0#32) := ⟨_, rfl⟩
    obtain ⟨s2, hs2⟩ : ∃ s2, s2 = s1.set d (rotI (s1.getD d 0#32 ^^^ s1.getD a 0#32) 16) := ⟨_, rfl⟩
    obtain ⟨s3, hs3⟩ : ∃ s3, s3 = s2.set c (s2.getD c 0#32 + s2.getD d 0#32) := ⟨_, rfl⟩
    obtain ⟨s4, hs4⟩ : ∃ s4, s4 = s3.set b (rotI (s3.getD b 0#32 ^^^ s3.getD c 0#32) 12) := ⟨_, rfl⟩
    have hl1 : s1.length = 16 := by rw [hs1, List.length_set, hl0]
    have hl2 : s2.length = 16 := by rw [hs2, List.length_set, hl1]
    have hl3 : s3.length = 16 := by rw [hs3, List.length_set, hl2]
    have h2 : s2 = hstep s0 a b d 16 := by rw [hs2, hs1]; rfl
    have hq : s4 = qsteps s a b c d 1 := by
      have h4 : s4 = hstep s2 c d b 12 := by rw [hs4, hs3]; rfl
      rw [h4, h2, hs0]; rfl
    refine Tr.seq ?_
    refine Tr.region ?_
    refine Tr.val (V.lss (b := true) rfl rfl (decide_eq_true (by omega))) rfl ?_
    refine Tr.lNil ?_
    refine Tr.thenN ?_
    refine Tr.seq ?_
    refine Tr.condT rfl ?_
    refine Tr.skip ?_
    refine Tr.thenN ?_
    refine Tr.seq ?_
    refine Tr.block ?_
    refine Tr.seq ?_
    refine Tr.region ?_
    refine Tr.val ((V.indexN (cs := [NV 16, NV 12, NV 8, NV 7]) (j := 0) (sz := 2) Tryd.runUnderlying70 Tryd.sizeOf69 Tryd.isAgg69 rfl rfl rfl (by omega) : VOp Tryd.prog _ _ _ _ _ _ _ (.agg [NV 16, NV 12].toArray))) rfl ?_
    refine Tr.op (W.alloc (cs := [NV 0, NV 0]) Tryd.zeroValue69 rfl rfl fun g9 => ?_)
    refine Tr.op (W.storeAll (vs := [NV 16, NV 12]) (cs := [NV 0, NV 0]) Tryd.sizeOf69 rfl rfl rfl rfl (by simp [Value.oneCell']) (by repeat (first | exact Upd.head | apply Upd.tail)) ?_)
    refine Tr.lNil ?_
    refine Tr.thenN ?_
    refine Tr.seq ?_
    refine Tr.regionD [0, 1, 3, 0, 8, 24, 63, 127, 255] [8] (.pure 0 (.pure 1 (.soft 2 (.pure 3 (.pure 4 (.soft 5 (.pure 6 (.pure 7 (.hard 8 .done))))))))) mixed (by kernel_rfl) ?_
    refine TrP.pure rfl (fun _ => V.move rfl) rfl ?_
    refine TrP.pure rfl (fun _ => V.nilCheck rfl) rfl ?_
    refine TrP.soft rfl (V.load1 Tryd.isAgg24 rfl (V.cellB (by repeat (first | exact List.Mem.head _ | apply List.Mem.tail)) (getS s0 a (by omega)))) rfl ?_
    refine TrP.pure rfl (fun _ => V.move rfl) rfl ?_
    refine TrP.pure rfl (fun _ => V.nilCheck rfl) rfl ?_
    refine TrP.soft rfl (V.load1 Tryd.isAgg24 rfl (V.cellB (by repeat (first | exact List.Mem.head _ | apply List.Mem.tail)) (getS s0 b (by omega)))) rfl ?_
    refine TrP.pure rfl (fun _ => V.add32 rfl rfl) rfl ?_
    refine TrP.pure rfl (fun _ => V.nilCheck rfl) rfl ?_
    refine TrP.hard rfl (W.store1E (cs := s0.map U32) (v := U32 (s0.getD a 0#32 + s0.getD b 0#32)) (cs' := s1.map U32) Tryd.sizeOf24 rfl rfl rfl rfl (by rw [hs1, List.map_set]) (by repeat (first | exact Upd.head | apply Upd.tail)) (by rw [List.length_map]; omega) ?_)
    refine Tr.pTail rfl ?_
    refine TrP.done ?_
    refine Tr.thenN ?_
    refine Tr.seq ?_
    refine Tr.regionD [0, 0, 2, 6, 0, 16, 48, 126, 0, 256, 1022, 2047, 4095] [12] (.pure 0 (.pure 1 (.pure 2 (.soft 3 (.pure 4 (.pure 5 (.soft 6 (.pure 7 (.pure 8 (.soft 9 (.soft 10 (.pure 11 (.hard 12 .done))))))))))))) mixed (by kernel_rfl) ?_
    refine TrP.pure rfl (fun _ => V.move rfl) rfl ?_
    refine TrP.pure rfl (fun _ => V.move rfl) rfl ?_
    refine TrP.pure rfl (fun _ => V.nilCheck rfl) rfl ?_
    refine TrP.soft rfl (V.load1 Tryd.isAgg24 rfl (V.cellB (by repeat (first | exact List.Mem.head _ | apply List.Mem.tail)) (getS s1 d (by omega)))) rfl ?_
    refine TrP.pure rfl (fun _ => V.move rfl) rfl ?_
    refine TrP.pure rfl (fun _ => V.nilCheck rfl) rfl ?_
    refine TrP.soft rfl (V.load1 Tryd.isAgg24 rfl (V.cellB (by repeat (first | exact List.Mem.head _ | apply List.Mem.tail)) (getS s1 a (by omega)))) rfl ?_
    refine TrP.pure rfl (fun _ => V.xor32 rfl rfl) rfl ?_
    refine TrP.pure rfl (fun _ => V.idxA (j := 0) (o' := 0) Tryd.runUnderlying69 Tryd.sizeOf3 rfl rfl rfl (by omega) rfl) rfl ?_
    refine TrP.soft rfl (V.load1 Tryd.isAgg3 rfl (V.cellB (by repeat (first | exact List.Mem.head _ | apply List.Mem.tail)) (show [NV 16, NV 12][0]? = some (NV 16) from rfl))) rfl ?_
    refine TrP.call rfl (args2 rfl rfl) Tryd.call37 rfl (fun w1 _ => rot_any _ _ w1) ?_
    refine TrP.pure rfl (fun _ => V.nilCheck rfl) rfl ?_
    refine TrP.hard rfl (W.store1E (cs := s1.map U32) (v := U32 (rotI (s1.getD d 0#32 ^^^ s1.getD a 0#32) 16)) (cs' := s2.map U32) Tryd.sizeOf24 rfl rfl rfl rfl (by rw [hs2, List.map_set]) (by repeat (first | exact Upd.head | apply Upd.tail)) (by rw [List.length_map]; omega) ?_)
    refine Tr.pTail rfl ?_
    refine TrP.done ?_
    refine Tr.thenN ?_
    refine Tr.seq ?_
    refine Tr.regionD [0, 1, 3, 0, 8, 24, 63, 127, 255] [8] (.pure 0 (.pure 1 (.soft 2 (.pure 3 (.pure 4 (.soft 5 (.pure 6 (.pure 7 (.hard 8 .done))))))))) mixed (by kernel_rfl) ?_
    refine TrP.pure rfl (fun _ => V.move rfl) rfl ?_
    refine TrP.pure rfl (fun _ => V.nilCheck rfl) rfl ?_
    refine TrP.soft rfl (V.load1 Tryd.isAgg24 rfl (V.cellB (by repeat (first | exact List.Mem.head _ | apply List.Mem.tail)) (getS s2 c (by omega)))) rfl ?_
    refine TrP.pure rfl (fun _ => V.move rfl) rfl ?_
    refine TrP.pure rfl (fun _ => V.nilCheck rfl) rfl ?_
    refine TrP.soft rfl (V.load1 Tryd.isAgg24 rfl (V.cellB (by repeat (first | exact List.Mem.head _ | apply List.Mem.tail)) (getS s2 d (by omega)))) rfl ?_
    refine TrP.pure rfl (fun _ => V.add32 rfl rfl) rfl ?_
    refine TrP.pure rfl (fun _ => V.nilCheck rfl) rfl ?_
    refine TrP.hard rfl (W.store1E (cs := s2.map U32) (v := U32 (s2.getD c 0#32 + s2.getD d 0#32)) (cs' := s3.map U32) Tryd.sizeOf24 rfl rfl rfl rfl (by rw [hs3, List.map_set]) (by repeat (first | exact Upd.head | apply Upd.tail)) (by rw [List.length_map]; omega) ?_)
    refine Tr.pTail rfl ?_
    refine TrP.done ?_
    refine Tr.thenN ?_
    refine Tr.regionD [0, 0, 2, 6, 0, 16, 48, 126, 0, 256, 1022, 2047, 4095] [12] (.pure 0 (.pure 1 (.pure 2 (.soft 3 (.pure 4 (.pure 5 (.soft 6 (.pure 7 (.pure 8 (.soft 9 (.soft 10 (.pure 11 (.hard 12 .done))))))))))))) mixed (by kernel_rfl) ?_
    refine TrP.pure rfl (fun _ => V.move rfl) rfl ?_
    refine TrP.pure rfl (fun _ => V.move rfl) rfl ?_
    refine TrP.pure rfl (fun _ => V.nilCheck rfl) rfl ?_
    refine TrP.soft rfl (V.load1 Tryd.isAgg24 rfl (V.cellB (by repeat (first | exact List.Mem.head _ | apply List.Mem.tail)) (getS s3 b (by omega)))) rfl ?_
    refine TrP.pure rfl (fun _ => V.move rfl) rfl ?_
    refine TrP.pure rfl (fun _ => V.nilCheck rfl) rfl ?_
    refine TrP.soft rfl (V.load1 Tryd.isAgg24 rfl (V.cellB (by repeat (first | exact List.Mem.head _ | apply List.Mem.tail)) (getS s3 c (by omega)))) rfl ?_
    refine TrP.pure rfl (fun _ => V.xor32 rfl rfl) rfl ?_
    refine TrP.pure rfl (fun _ => V.idxA (j := 1) (o' := 1) Tryd.runUnderlying69 Tryd.sizeOf3 rfl rfl rfl (by omega) rfl) rfl ?_
    refine TrP.soft rfl (V.load1 Tryd.isAgg3 rfl (V.cellB (by repeat (first | exact List.Mem.head _ | apply List.Mem.tail)) (show [NV 16, NV 12][1]? = some (NV 12) from rfl))) rfl ?_
    refine TrP.call rfl (args2 rfl rfl) Tryd.call37 rfl (fun w1 _ => rot_any _ _ w1) ?_
    refine TrP.pure rfl (fun _ => V.nilCheck rfl) rfl ?_
    refine TrP.hard rfl (W.store1E (cs := s3.map U32) (v := U32 (rotI (s3.getD b 0#32 ^^^ s3.getD c 0#32) 12)) (cs' := s4.map U32) Tryd.sizeOf24 rfl rfl rfl rfl (by rw [hs4, List.map_set]) (by repeat (first | exact Upd.head | apply Upd.tail)) (by rw [List.length_map]; omega) ?_)
    refine Tr.pTail rfl ?_
    refine TrP.done ?_
    refine Tr.inN ?_
    refine Tr.thenN ?_
    refine Tr.region ?_
    refine Tr.val (V.add rfl rfl (by omega)) rfl ?_
    refine Tr.val (V.move rfl) rfl ?_
    refine Tr.lNil ?_
    exact Tr.again 1 (by omega) (by omega) (lk_cons rfl (lk_cons rfl (lk_cons rfl (lk_cons rfl (lk_cons rfl (lk_cons rfl (lk_nil _))))))) (by rw [← hq]; exact List.sublist_cons_self _ _)
  · obtain ⟨s0, hs0⟩ : ∃ s0, s0 = qsteps s a b c d 1 := ⟨_, rfl⟩
    have hl0 : s0.length = 16 := by rw [hs0, qsteps_len, hs]
    rw [← hs0]
    obtain ⟨s1, hs1⟩ : ∃ s1, s1 = s0.set a (s0.getD a 0#32 + s0.getD b 0#32) := ⟨_, rfl⟩
    obtain ⟨s2, hs2⟩ : ∃ s2, s2 = s1.set d (rotI (s1.getD d 0#32 ^^^ s1.getD a 0#32) 8) := ⟨_, rfl⟩
    obtain ⟨s3, hs3⟩ : ∃ s3, s3 = s2.set c (s2.getD c 0#32 + s2.getD d 0#32) := ⟨_, rfl⟩
    obtain ⟨s4, hs4⟩ : ∃ s4, s4 = s3.set b (rotI (s3.getD b 0#32 ^^^ s3.getD c 0#32) 7) := ⟨_, rfl⟩
    have hl1 : s1.length = 16 := by rw [hs1, List.length_set, hl0]
    have hl2 : s2.length = 16 := by rw [hs2, List.length_set, hl1]
    have hl3 : s3.length = 16 := by rw [hs3, List.length_set, hl2]
    have h2 : s2 = hstep s0 a b d 8 := by rw [hs2, hs1]; rfl
    have hq : s4 = qsteps s a b c d 2 := by
      have h4 : s4 = hstep s2 c d b 7 := by rw [hs4, hs3]; rfl
      rw [h4, h2, hs0]; rfl
    refine Tr.seq ?_
    refine Tr.region ?_
    refine Tr.val (V.lss (b := true) rfl rfl (decide_eq_true (by omega))) rfl ?_
    refine Tr.lNil ?_
    refine Tr.thenN ?_
    refine Tr.seq ?_
    refine Tr.condT rfl ?_
    refine Tr.skip ?_
    refine Tr.thenN ?_
    refine Tr.seq ?_
    refine Tr.block ?_
    refine Tr.seq ?_
    refine Tr.region ?_
    refine Tr.val ((V.indexN (cs := [NV 16, NV 12, NV 8, NV 7]) (j := 1) (sz := 2) Tryd.runUnderlying70 Tryd.sizeOf69 Tryd.isAgg69 rfl rfl rfl (by omega) : VOp Tryd.prog _ _ _ _ _ _ _ (.agg [NV 8, NV 7].toArray))) rfl ?_
    refine Tr.op (W.alloc (cs := [NV 0, NV 0]) Tryd.zeroValue69 rfl rfl fun g9 => ?_)
    refine Tr.op (W.storeAll (vs := [NV 8, NV 7]) (cs := [NV 0, NV 0]) Tryd.sizeOf69 rfl rfl rfl rfl (by simp [Value.oneCell']) (by repeat (first | exact Upd.head | apply Upd.tail)) ?_)
    refine Tr.lNil ?_
    refine Tr.thenN ?_
    refine Tr.seq ?_
    refine Tr.regionD [0, 1, 3, 0, 8, 24, 63, 127, 255] [8] (.pure 0 (.pure 1 (.soft 2 (.pure 3 (.pure 4 (.soft 5 (.pure 6 (.pure 7 (.hard 8 .done))))))))) mixed (by kernel_rfl) ?_
    refine TrP.pure rfl (fun _ => V.move rfl) rfl ?_
    refine TrP.pure rfl (fun _ => V.nilCheck rfl) rfl ?_
    refine TrP.soft rfl (V.load1 Tryd.isAgg24 rfl (V.cellB (by repeat (first | exact List.Mem.head _ | apply List.Mem.tail)) (getS s0 a (by omega)))) rfl ?_
    refine TrP.pure rfl (fun _ => V.move rfl) rfl ?_
    refine TrP.pure rfl (fun _ => V.nilCheck rfl) rfl ?_
    refine TrP.soft rfl (V.load1 Tryd.isAgg24 rfl (V.cellB (by repeat (first | exact List.Mem.head _ | apply List.Mem.tail)) (getS s0 b (by omega)))) rfl ?_
    refine TrP.pure rfl (fun _ => V.add32 rfl rfl) rfl ?_
    refine TrP.pure rfl (fun _ => V.nilCheck rfl) rfl ?_
    refine TrP.hard rfl (W.store1E (cs := s0.map U32) (v := U32 (s0.getD a 0#32 + s0.getD b 0#32)) (cs' := s1.map U32) Tryd.sizeOf24 rfl rfl rfl rfl (by rw [hs1, List.map_set]) (by repeat (first | exact Upd.head | apply Upd.tail)) (by rw [List.length_map]; omega) ?_)
    refine Tr.pTail rfl ?_
    refine TrP.done ?_
    refine Tr.thenN ?_
    refine Tr.seq ?_
    refine Tr.regionD [0, 0, 2, 6, 0, 16, 48, 126, 0, 256, 1022, 2047, 4095] [12] (.pure 0 (.pure 1 (.pure 2 (.soft 3 (.pure 4 (.pure 5 (.soft 6 (.pure 7 (.pure 8 (.soft 9 (.soft 10 (.pure 11 (.hard 12 .done))))))))))))) mixed (by kernel_rfl) ?_
    refine TrP.pure rfl (fun _ => V.move rfl) rfl ?_
    refine TrP.pure rfl (fun _ => V.move rfl) rfl ?_
    refine TrP.pure rfl (fun _ => V.nilCheck rfl) rfl ?_
    refine TrP.soft rfl (V.load1 Tryd.isAgg24 rfl (V.cellB (by repeat (first | exact List.Mem.head _ | apply List.Mem.tail)) (getS s1 d (by omega)))) rfl ?_
    refine TrP.pure rfl (fun _ => V.move rfl) rfl ?_
    refine TrP.pure rfl (fun _ => V.nilCheck rfl) rfl ?_
    refine TrP.soft rfl (V.load1 Tryd.isAgg24 rfl (V.cellB (by repeat (first | exact List.Mem.head _ | apply List.Mem.tail)) (getS s1 a (by omega)))) rfl ?_
    refine TrP.pure rfl (fun _ => V.xor32 rfl rfl) rfl ?_
    refine TrP.pure rfl (fun _ => V.idxA (j := 0) (o' := 0) Tryd.runUnderlying69 Tryd.sizeOf3 rfl rfl rfl (by omega) rfl) rfl ?_
    refine TrP.soft rfl (V.load1 Tryd.isAgg3 rfl (V.cellB (by repeat (first | exact List.Mem.head _ | apply List.Mem.tail)) (show [NV 8, NV 7][0]? = some (NV 8) from rfl))) rfl ?_
    refine TrP.call rfl (args2 rfl rfl) Tryd.call37 rfl (fun w1 _ => rot_any _ _ w1) ?_
    refine TrP.pure rfl (fun _ => V.nilCheck rfl) rfl ?_
    refine TrP.hard rfl (W.store1E (cs := s1.map U32) (v := U32 (rotI (s1.getD d 0#32 ^^^ s1.getD a 0#32) 8)) (cs' := s2.map U32) Tryd.sizeOf24 rfl rfl rfl rfl (by rw [hs2, List.map_set]) (by repeat (first | exact Upd.head | apply Upd.tail)) (by rw [List.length_map]; omega) ?_)
    refine Tr.pTail rfl ?_
    refine TrP.done ?_
    refine Tr.thenN ?_
    refine Tr.seq ?_
    refine Tr.regionD [0, 1, 3, 0, 8, 24, 63, 127, 255] [8] (.pure 0 (.pure 1 (.soft 2 (.pure 3 (.pure 4 (.soft 5 (.pure 6 (.pure 7 (.hard 8 .done))))))))) mixed (by kernel_rfl) ?_
    refine TrP.pure rfl (fun _ => V.move rfl) rfl ?_
    refine TrP.pure rfl (fun _ => V.nilCheck rfl) rfl ?_
    refine TrP.soft rfl (V.load1 Tryd.isAgg24 rfl (V.cellB (by repeat (first | exact List.Mem.head _ | apply List.Mem.tail)) (getS s2 c (by omega)))) rfl ?_
    refine TrP.pure rfl (fun _ => V.move rfl) rfl ?_
    refine TrP.pure rfl (fun _ => V.nilCheck rfl) rfl ?_
    refine TrP.soft rfl (V.load1 Tryd.isAgg24 rfl (V.cellB (by repeat (first | exact List.Mem.head _ | apply List.Mem.tail)) (getS s2 d (by omega)))) rfl ?_
    refine TrP.pure rfl (fun _ => V.add32 rfl rfl) rfl ?_
    refine TrP.pure rfl (fun _ => V.nilCheck rfl) rfl ?_
    refine TrP.hard rfl (W.store1E (cs := s2.map U32) (v := U32 (s2.getD c 0#32 + s2.getD d 0#32)) (cs' := s3.map U32) Tryd.sizeOf24 rfl rfl rfl rfl (by rw [hs3, List.map_set]) (by repeat (first | exact Upd.head | apply Upd.tail)) (by rw [List.length_map]; omega) ?_)
    refine Tr.pTail rfl ?_
    refine TrP.done ?_
    refine Tr.thenN ?_
    refine Tr.regionD [0, 0, 2, 6, 0, 16, 48, 126, 0, 256, 1022, 2047, 4095] [12] (.pure 0 (.pure 1 (.pure 2 (.soft 3 (.pure 4 (.pure 5 (.soft 6 (.pure 7 (.pure 8 (.soft 9 (.soft 10 (.pure 11 (.hard 12 .done))))))))))))) mixed (by kernel_rfl) ?_
    refine TrP.pure rfl (fun _ => V.move rfl) rfl ?_
    refine TrP.pure rfl (fun _ => V.move rfl) rfl ?_
    refine TrP.pure rfl (fun _ => V.nilCheck rfl) rfl ?_
    refine TrP.soft rfl (V.load1 Tryd.isAgg24 rfl (V.cellB (by repeat (first | exact List.Mem.head _ | apply List.Mem.tail)) (getS s3 b (by omega)))) rfl ?_
    refine TrP.pure rfl (fun _ => V.move rfl) rfl ?_
    refine TrP.pure rfl (fun _ => V.nilCheck rfl) rfl ?_
    refine TrP.soft rfl (V.load1 Tryd.isAgg24 rfl (V.cellB (by repeat (first | exact List.Mem.head _ | apply List.Mem.tail)) (getS s3 c (by omega)))) rfl ?_
    refine TrP.pure rfl (fun _ => V.xor32 rfl rfl) rfl ?_
    refine TrP.pure rfl (fun _ => V.idxA (j := 1) (o' := 1) Tryd.runUnderlying69 Tryd.sizeOf3 rfl rfl rfl (by omega) rfl) rfl ?_
    refine TrP.soft rfl (V.load1 Tryd.isAgg3 rfl (V.cellB (by repeat (first | exact List.Mem.head _ | apply List.Mem.tail)) (show [NV 8, NV 7][1]? = some (NV 7) from rfl))) rfl ?_
    refine TrP.call rfl (args2 rfl rfl) Tryd.call37 rfl (fun w1 _ => rot_any _ _ w1) ?_
    refine TrP.pure rfl (fun _ => V.nilCheck rfl) rfl ?_
    refine TrP.hard rfl (W.store1E (cs := s3.map U32) (v := U32 (rotI (s3.getD b 0#32 ^^^ s3.getD c 0#32) 7)) (cs' := s4.map U32) Tryd.sizeOf24 rfl rfl rfl rfl (by rw [hs4, List.map_set]) (by repeat (first | exact Upd.head | apply Upd.tail)) (by rw [List.length_map]; omega) ?_)
    refine Tr.pTail rfl ?_
    refine TrP.done ?_
    refine Tr.inN ?_
    refine Tr.thenN ?_
    refine Tr.region ?_
    refine Tr.val (V.add rfl rfl (by omega)) rfl ?_
    refine Tr.val (V.move rfl) rfl ?_
    refine Tr.lNil ?_
    exact Tr.again 2 (by omega) (by omega) (lk_cons rfl (lk_cons rfl (lk_cons rfl (lk_cons rfl (lk_cons rfl (lk_cons rfl (lk_nil _))))))) (by rw [← hq]; exact List.sublist_cons_self _ _)
  · refine Tr.seq ?_
    refine Tr.region ?_
    refine Tr.val (V.lss (b := false) rfl rfl (decide_eq_false (by omega))) rfl ?_
    refine Tr.lNil ?_
    refine Tr.thenN ?_
    refine Tr.seq ?_
    refine Tr.condF rfl ?_
    refine Tr.exit ?_
    refine Tr.thenX ?_
    refine Tr.thenX ?_
    refine Tr.inHit ?_
    refine Tr.out0 rfl fun w hw => ?_
    exact ⟨rfl, hw⟩

set_option maxRecDepth 20000 in
theorem first_any (key : List (BitVec 8)) (ctr : BitVec 32) (nonce : List (BitVec 8)) (w : World) (hk : key.length = 32) (hn : nonce.length = 12) :
    Calls Tryd.prog 23 [.agg (key.map U8).toArray, U32 ctr, .agg (nonce.map U8).toArray].toArray w fun r w' => r = .returned (.agg ((firstL key ctr nonce).map U32).toArray) ∧ Hp w [] [] w' := by
  have hFl := firstL_len key ctr nonce hk hn
  have hBl := firstB_len key ctr nonce hk hn
  refine Tr.enter Tryd.func23 rfl Tryd.ntmps23 rfl (Hp.refl w) ?_
  refine Tr.seq ?_
  refine Tr.region ?_
  refine Tr.op (W.box (cs := key.map U8) rfl rfl rfl fun g3 => ?_)
  refine Tr.op (W.box (cs := nonce.map U8) rfl rfl rfl fun g5 => ?_)
  refine Tr.op (W.alloc (cs := (List.replicate 16 0#32).map U32) Tryd.zeroValue47 rfl rfl fun g6 => ?_)
  refine Tr.lNil ?_
  refine Tr.thenN ?_
  refine Tr.seq ?_
  refine Tr.region ?_
  refine Tr.op (W.build (vs := [U8 101#8, U8 120#8, U8 112#8, U8 97#8, U8 110#8, U8 100#8, U8 32#8, U8 51#8, U8 50#8, U8 45#8, U8 98#8, U8 121#8, U8 116#8, U8 101#8, U8 32#8, U8 107#8]) elem27 (fun a _ => by simp [Act.eval, List.range'_succ]) rfl (by simp [Value.cells]) (by omega) rfl fun g11 => ?_)
  refine Tr.op (W.stringish (cs := [U8 101#8, U8 120#8, U8 112#8, U8 97#8, U8 110#8, U8 100#8, U8 32#8, U8 51#8, U8 50#8, U8 45#8, U8 98#8, U8 121#8, U8 116#8, U8 101#8, U8 32#8, U8 107#8]) Tryd.runUnderlying27 Tryd.runUnderlying5 rfl rfl (List.Perm.refl _) fun wq hq1 hr1 hg1 => ?_)
  refine Tr.val (V.sliceW Tryd.runUnderlying23 Tryd.sizeOf5 rfl) rfl ?_
  refine Tr.op (W.appendGrow (m := 16) (k := 32) (xs := [U8 101#8, U8 120#8, U8 112#8, U8 97#8, U8 110#8, U8 100#8, U8 32#8, U8 51#8, U8 50#8, U8 45#8, U8 98#8, U8 121#8, U8 116#8, U8 101#8, U8 32#8, U8 107#8]) (vs := key.map U8) elem27 rfl (RdP.old hr1 (fun _ h => by cases h; exact hg1)) rfl (by omega) rfl (RdP.all (by repeat (first | exact List.Mem.head _ | apply List.Mem.tail))) (by rw [List.length_map, hk]) (by omega) (by omega) (by omega) (by omega) rfl fun g14 c14 junk14 hc14 => ?_)
  rw [show [U8 101#8, U8 120#8, U8 112#8, U8 97#8, U8 110#8, U8 100#8, U8 32#8, U8 51#8, U8 50#8, U8 45#8, U8 98#8, U8 121#8, U8 116#8, U8 101#8, U8 32#8, U8 107#8] ++ key.map U8 = (expandB ++ key).map U8 by rw [List.map_append]; rfl] at hc14 ⊢
  refine Tr.val (V.assign rfl) rfl ?_
  refine Tr.lNil ?_
  refine Tr.thenN ?_
  refine Tr.seq ?_
  refine Tr.region ?_
  refine Tr.val (V.move rfl) rfl ?_
  refine Tr.val (V.move rfl) rfl ?_
  refine Tr.val (V.conv32_64 Tryd.runUnderlying24 Tryd.runUnderlying53 rfl) rfl ?_
  refine Tr.op (W.call (val := fun x : Nat × Nat × List Value => .slice (some ⟨x.1, 0, none⟩) 52 x.2.1) (N := fun x => [⟨x.1, 5, (expandB ++ key ++ putL (ctr.setWidth 64) 4).map U8 ++ x.2.2⟩]) (Px := fun x => ((expandB ++ key ++ putL (ctr.setWidth 64) 4).map U8 ++ x.2.2).length = x.2.1)  (args4 rfl rfl rfl rfl) Tryd.call25 rfl (fun w1 hw => by have h := put_any (some ⟨g14, 0, none⟩) 48 c14 (expandB ++ key) 4 (ctr.setWidth 64) false w1 ((RdP.headL (List.Mem.head _)).now hw) (by simp [hk, expandB]) (fun h => by cases h) (by omega) (.inl rfl); unfold PutOut at h; rw [show effI 4 = 4 from by decide] at h; exact h) fun y hy => ?_)
  refine Tr.val (V.assign rfl) rfl ?_
  refine Tr.lNil ?_
  refine Tr.thenN ?_
  refine Tr.seq ?_
  refine Tr.region ?_
  refine Tr.val (V.move rfl) rfl ?_
  refine Tr.val (V.sliceW Tryd.runUnderlying26 Tryd.sizeOf5 rfl) rfl ?_
  refine Tr.op (W.append (m := 52) (k := 12) (xs := (expandB ++ key ++ putL (ctr.setWidth 64) 4).map U8) (vs := nonce.map U8) (junk := y.2.2) (L' := fun z => [z, ⟨g14, 5, (expandB ++ key).map U8 ++ junk14⟩, ⟨g6, 47, (List.replicate 16 0#32).map U32⟩, ⟨g5, 26, nonce.map U8⟩, ⟨g3, 23, key.map U8⟩]) elem27 rfl rfl (RdP.all (by repeat (first | exact List.Mem.head _ | apply List.Mem.tail))) (by rw [List.length_map, hn]) (one8 _) (fun z => .head) (by simp [hk, putL_len, expandB]) hy (by omega) (by omega) rfl fun g21 c21 junk21 hc21 => ?_)
  rw [show (expandB ++ key ++ putL (ctr.setWidth 64) 4).map U8 ++ nonce.map U8 = (firstB key ctr nonce).map U8 by rw [firstB, List.map_append (l₂ := nonce)]] at hc21 ⊢
  refine Tr.val (V.assign rfl) rfl ?_
  refine Tr.lNil ?_
  refine Tr.thenN ?_
  refine Tr.seq ?_
  refine Tr.seq ?_
  refine Tr.region ?_
  refine Tr.val (V.move rfl) rfl ?_
  refine Tr.lNil ?_
  refine Tr.thenN ?_
  refine Tr.block ?_
  refine Tr.loop (ι := Nat) (fun i => i ≤ 16) (fun i => [(6, .pointer (some ⟨g6, 0, none⟩)), (7, .slice (some ⟨g21, 0, none⟩) 64 c21), (22, NV i)]) (fun i => [⟨g21, 5, (firstB key ctr nonce).map U8 ++ junk21⟩, ⟨g6, 47, (fillW (firstL key ctr nonce) i).map U32⟩]) (fun i => 16 - i) 0 (Nat.zero_le _) (lk_cons rfl (lk_cons rfl (lk_cons rfl (lk_nil _)))) (by rw [fillW_zero]; exact .cons_cons _ (.cons _ (.cons_cons _ (List.nil_sublist _)))) fun i hI => ?_
  refine Tr.seq ?_
  refine Tr.region ?_
  refine Tr.val (V.lss rfl rfl rfl) rfl ?_
  refine Tr.lNil ?_
  refine Tr.thenN ?_
  refine Tr.seq ?_
  refine Tr.cond rfl (fun hT0 => ?_) (fun hF0 => ?_)
  · simp only [decide_eq_true_eq] at hT0
    have hlt : i < 16 := by omega
    refine Tr.skip ?_
    refine Tr.thenN ?_
    refine Tr.seq ?_
    refine Tr.block ?_
    refine Tr.seq ?_
    refine Tr.region ?_
    refine Tr.val (V.move rfl) rfl ?_
    refine Tr.val (V.assign rfl) rfl ?_
    refine Tr.lNil ?_
    refine Tr.thenN ?_
    refine Tr.seq ?_
    refine Tr.region ?_
    refine Tr.val (V.move rfl) rfl ?_
    refine Tr.val (V.move rfl) rfl ?_
    refine Tr.val (V.mulN (a := 4) rfl rfl (by omega)) rfl ?_
    refine Tr.op (W.call1 (args4 rfl rfl rfl rfl) Tryd.call36 rfl (fun w1 hw => get_ok (some ⟨g21, 0, none⟩) 64 c21 (4 * i) 4 false (firstB key ctr nonce) w1 ((RdP.headL (by repeat (first | exact List.Mem.head _ | apply List.Mem.tail))).now hw) hBl (by omega) (by omega) (by omega) (by omega)) ?_)
    refine Tr.val (V.move rfl) rfl ?_
    refine Tr.val (V.extract rfl rfl) rfl ?_
    refine Tr.val (V.extract rfl rfl) rfl ?_
    refine Tr.val (V.assign rfl) rfl ?_
    refine Tr.val (V.assign rfl) rfl ?_
    refine Tr.lNil ?_
    refine Tr.thenN ?_
    refine Tr.region ?_
    refine Tr.val (V.move rfl) rfl ?_
    refine Tr.val (V.move rfl) rfl ?_
    refine Tr.val (V.conv64_32 Tryd.runUnderlying53 Tryd.runUnderlying24 rfl) rfl ?_
    refine Tr.val (V.idxA (j := i) (o' := i) Tryd.runUnderlying47 Tryd.sizeOf24 rfl rfl (by omega) (by omega) (by omega)) rfl ?_
    refine Tr.op (W.store1E (cs := (fillW (firstL key ctr nonce) i).map U32) (v := U32 (wordAt (firstB key ctr nonce) i)) (cs' := (fillW (firstL key ctr nonce) (i + 1)).map U32) Tryd.sizeOf24 rfl rfl rfl rfl (by rw [← fillW_set _ i _ hFl hlt (wordsL_get _ i (by omega)), List.map_set]) (by repeat (first | exact Upd.head | apply Upd.tail)) (by rw [List.length_map, fillW_len _ i hFl (by omega)]; omega) ?_)
    refine Tr.lNil ?_
    refine Tr.inN ?_
    refine Tr.thenN ?_
    refine Tr.region ?_
    refine Tr.val (V.add rfl rfl (by omega)) rfl ?_
    refine Tr.val (V.move rfl) rfl ?_
    refine Tr.lNil ?_
    exact Tr.again (i + 1) (by omega) (by omega) (lk_cons rfl (lk_cons rfl (lk_cons rfl (lk_nil _)))) (List.Sublist.refl _)
  · simp only [decide_eq_false_iff_not] at hF0
    obtain rfl : i = 16 := by omega
    rw [fillW_all _ hFl]
    refine Tr.exit ?_
    refine Tr.thenX ?_
    refine Tr.thenX ?_
    refine Tr.inHit ?_
    refine Tr.thenN ?_
    refine Tr.seq ?_
    refine Tr.region ?_
    refine Tr.val (V.loadN (cs := (firstL key ctr nonce).map U32) Tryd.isAgg47 (by rw [List.length_map, hFl]; exact Tryd.sizeOf47) rfl (V.cellsB (by repeat (first | exact List.Mem.head _ | apply List.Mem.tail)))) rfl ?_
    refine Tr.op (W.storeAll (vs := (firstL key ctr nonce).map U32) (cs := (firstL key ctr nonce).map U32) Tryd.sizeOf47 rfl rfl (by rw [List.length_map, hFl]) (by rw [List.length_map, hFl]) (one32 _) (by repeat (first | exact Upd.head | apply Upd.tail)) ?_)
    refine Tr.lNil ?_
    refine Tr.thenN ?_
    refine Tr.ret ?_
    refine Tr.out1 rfl (Res.cellN (cs := (firstL key ctr nonce).map U32) rfl Tryd.isAgg47 (by rw [List.length_map, hFl]; exact Tryd.sizeOf47) (by repeat (first | exact List.Mem.head _ | apply List.Mem.tail))) fun w hw => ?_
    exact ⟨rfl, (hq1.trans hw).sub (List.nil_sublist _)⟩

end Go.Proofs.YtnhfmmohdiccgaaDoor
