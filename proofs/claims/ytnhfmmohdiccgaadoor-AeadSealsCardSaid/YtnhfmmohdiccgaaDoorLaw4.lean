/-
  hatchwaylaw04: shown. (Printed by a program of this session over its walk printer.)
-/
import Derived.Test.YtnhfmmohdiccgaaDoorPlainLaw4
import Derived.Test.YtnhfmmohdiccgaaDoorAeadB
namespace Go.Proofs.YtnhfmmohdiccgaaDoor
open Go.Sym Plain
set_option linter.unusedVariables false
set_option maxRecDepth 20000

theorem shown4_true (w : World) (hq0 : RdB w (some ⟨0, 0, none⟩) (qflat.map NV)) : Calls Tryd.prog 19 #[] w fun r w' => r = .returned (.bool true) ∧ Hp w [] [] w' := by
  have s0 : KeptRow w [] (some ⟨0, 0, none⟩) (qflat.map NV) := ⟨hq0, fun _ _ => by simp⟩
  have hbl : abcB.length = 3 := rfl
  refine Tr.enter Tryd.func19 rfl Tryd.ntmps19 rfl (Hp.refl w) ?_
  refine Tr.seq ?_
  refine Tr.region ?_
  refine Tr.val (V.assign rfl) rfl ?_
  refine Tr.lNil ?_
  refine Tr.thenN ?_
  refine Tr.seq ?_
  refine Tr.region ?_
  refine Tr.val ((V.buildA (vs := [(0, U8 1#8)]) (cs := (K1.map U8).toArray) Tryd.runUnderlying23 Tryd.sizeOf5 Tryd.zeroValue23 (fun a he => by simp [Act.eval]) rfl)) rfl ?_
  refine Tr.val ((V.buildA (vs := [(0, U8 2#8)]) (cs := (N2.map U8).toArray) Tryd.runUnderlying26 Tryd.sizeOf5 Tryd.zeroValue26 (fun a he => by simp [Act.eval]) rfl)) rfl ?_
  refine Tr.op (W.build (vs := (besB.map U8)) elem27 (fun a _ => by simp [Act.eval, List.range'_succ, besB]) rfl (by simp [Value.cells, besB]) (by decide) rfl fun g8 => ?_)
  refine Tr.op (W.stringish (cs := (besB.map U8)) Tryd.runUnderlying27 Tryd.runUnderlying5 rfl rfl (List.Perm.refl _) fun w1 hq1 hr1 hg1 => ?_)
  have s1 := KeptRow.next hq1 s0 (by decide)
  have r1 : KeptRow w1 _ _ (besB.map U8) := ⟨hr1, fun a h => by cases h; exact hg1⟩
  refine Tr.op (W.build (vs := (abcB.map U8)) elem27 (fun a _ => by simp [Act.eval, List.range'_succ, abcB]) rfl (by simp [Value.cells, abcB]) (by decide) rfl fun g10 => ?_)
  refine Tr.op (W.stringish (cs := (abcB.map U8)) Tryd.runUnderlying27 Tryd.runUnderlying5 rfl rfl (List.Perm.refl _) fun w2 hq2 hr2 hg2 => ?_)
  have s2 := KeptRow.next hq2 s1 (by decide)
  have r1b := KeptRow.next hq2 r1 (by decide)
  have r2 : KeptRow w2 _ _ (abcB.map U8) := ⟨hr2, fun a h => by cases h; exact hg2⟩
  refine Tr.op (W.call (val := fun r0 : Nat × Nat × List Value => .slice (some ⟨r0.1, 0, none⟩) (3 + 16) r0.2.1) (N := fun r0 => [⟨r0.1, 5, (sealL K1 N2 besB abcB).map U8 ++ r0.2.2⟩]) (Px := fun r0 => ((sealL K1 N2 besB abcB).map U8 ++ r0.2.2).length = r0.2.1)  (args4 rfl rfl rfl rfl) Tryd.call20 rfl (fun w1 hw => seal_any (some ⟨g8, 0, none⟩) (some ⟨g10, 0, none⟩) 6 6 3 3 K1 N2 besB abcB w1 rfl rfl (KeptRow.bytes r1b hw rfl (by omega)) (KeptRow.bytes r2 hw rfl (by omega)) (by omega) (by omega) ((RdP.old s2.1 s2.2).now hw)) fun y hy => ?_)
  refine Tr.val (V.assign rfl) rfl ?_
  refine Tr.lNil ?_
  refine Tr.thenN ?_
  refine Tr.seq ?_
  refine Tr.region ?_
  refine Tr.val ((V.buildA (vs := [(0, U8 1#8)]) (cs := (K1.map U8).toArray) Tryd.runUnderlying23 Tryd.sizeOf5 Tryd.zeroValue23 (fun a he => by simp [Act.eval]) rfl)) rfl ?_
  refine Tr.val ((V.buildA (vs := [(0, U8 2#8)]) (cs := (N2.map U8).toArray) Tryd.runUnderlying26 Tryd.sizeOf5 Tryd.zeroValue26 (fun a he => by simp [Act.eval]) rfl)) rfl ?_
  refine Tr.op (W.build (vs := (besB.map U8)) elem27 (fun a _ => by simp [Act.eval, List.range'_succ, besB]) rfl (by simp [Value.cells, besB]) (by decide) rfl fun g16 => ?_)
  refine Tr.op (W.stringish (cs := (besB.map U8)) Tryd.runUnderlying27 Tryd.runUnderlying5 rfl rfl (List.Perm.refl _) fun w3 hq3 hr3 hg3 => ?_)
  have s3 := KeptRow.next hq3 s2 (by decide)
  have r3 : KeptRow w3 _ _ (besB.map U8) := ⟨hr3, fun a h => by cases h; exact hg3⟩
  refine Tr.val (V.move rfl) rfl ?_
  refine Tr.op (W.call (val := fun r0 : Nat × Nat × List Value => .tuple #[.slice (some ⟨r0.1, 0, none⟩) 3 r0.2.1, .int .i64 0]) (N := fun r0 => [⟨r0.1, 5, abcB.map U8 ++ r0.2.2⟩]) (Px := fun r0 => (abcB.map U8 ++ r0.2.2).length = r0.2.1)  (args4 rfl rfl rfl rfl) Tryd.call21 rfl (fun w1 hw => by have h := open_ok (some ⟨g16, 0, none⟩) (some ⟨y.1, 0, none⟩) 6 6 (3 + 16) y.2.1 K1 N2 besB (sealL K1 N2 besB abcB) w1 rfl rfl (KeptRow.bytes r3 hw rfl (by omega)) (Bytes.own hw (by repeat (first | exact List.Mem.head _ | apply List.Mem.tail)) (by rw [sealL_len]; exact congrArg (· + 16) hbl) hy (by omega)) (by omega) (by omega) (by omega) (open_seal _ _ _ _ 3 hbl).1 ((RdP.old s3.1 s3.2).now hw); rw [(open_seal _ _ _ _ 3 hbl).2, Nat.add_sub_cancel] at h; exact h) fun z hz => ?_)
  refine Tr.val (V.move rfl) rfl ?_
  refine Tr.val (V.extract rfl rfl) rfl ?_
  refine Tr.val (V.extract rfl rfl) rfl ?_
  refine Tr.val (V.assign rfl) rfl ?_
  refine Tr.val (V.assign rfl) rfl ?_
  refine Tr.lNil ?_
  refine Tr.thenN ?_
  refine Tr.seq ?_
  refine Tr.region ?_
  refine Tr.val ((V.buildA (vs := [(0, U8 1#8)]) (cs := (K1.map U8).toArray) Tryd.runUnderlying23 Tryd.sizeOf5 Tryd.zeroValue23 (fun a he => by simp [Act.eval]) rfl)) rfl ?_
  refine Tr.val ((V.buildA (vs := [(0, U8 2#8)]) (cs := (N2.map U8).toArray) Tryd.runUnderlying26 Tryd.sizeOf5 Tryd.zeroValue26 (fun a he => by simp [Act.eval]) rfl)) rfl ?_
  refine Tr.op (W.build (vs := (shortB.map U8)) elem27 (fun a _ => by simp [Act.eval, List.range'_succ, shortB]) rfl (by simp [Value.cells, shortB]) (by decide) rfl fun g25 => ?_)
  refine Tr.op (W.stringish (cs := (shortB.map U8)) Tryd.runUnderlying27 Tryd.runUnderlying5 rfl rfl (List.Perm.refl _) fun w4 hq4 hr4 hg4 => ?_)
  have s4 := KeptRow.next hq4 s3 (by decide)
  have r4 : KeptRow w4 _ _ (shortB.map U8) := ⟨hr4, fun a h => by cases h; exact hg4⟩
  refine Tr.op (W.call1 (args4 rfl rfl rfl rfl) Tryd.call21 rfl (fun w1 hw => open_short none (some ⟨g25, 0, none⟩) 0 0 5 5 K1 N2 [] shortB w1 rfl rfl (Bytes.no w1) (KeptRow.bytes r4 hw rfl (by omega)) (by omega) (by omega) (by omega) ((RdP.old s4.1 s4.2).now hw)) ?_)
  refine Tr.val (V.move rfl) rfl ?_
  refine Tr.val (V.extract rfl rfl) rfl ?_
  refine Tr.val (V.extract rfl rfl) rfl ?_
  refine Tr.val (V.assign rfl) rfl ?_
  refine Tr.val (V.assign rfl) rfl ?_
  refine Tr.lNil ?_
  refine Tr.thenN ?_
  refine Tr.seq ?_
  refine Tr.region ?_
  refine Tr.val (V.move rfl) rfl ?_
  refine Tr.val (V.len Tryd.runUnderlying27 rfl) rfl ?_
  refine Tr.val (V.eql (b := true) rfl rfl (decide_eq_true rfl)) rfl ?_
  refine Tr.val (V.move rfl) rfl ?_
  refine Tr.valG rfl (V.move rfl) rfl ?_
  refine Tr.valG rfl (V.bytesStr Tryd.runUnderlying27 Tryd.runUnderlying9 Tryd.runUnderlying5 rfl (xs := abcB) (RdP.headL (by repeat (first | exact List.Mem.head _ | apply List.Mem.tail))) rfl) rfl ?_
  refine Tr.valG rfl (V.eqlS (b := true) rfl rfl (by decide +kernel)) rfl ?_
  refine Tr.val (V.pick rfl rfl) rfl ?_
  refine Tr.val (V.move rfl) rfl ?_
  refine Tr.valG rfl (V.move rfl) rfl ?_
  refine Tr.valG rfl (V.eql rfl rfl rfl) rfl ?_
  refine Tr.val (V.pick rfl rfl) rfl ?_
  refine Tr.val (V.move rfl) rfl ?_
  refine Tr.valG rfl (V.move rfl) rfl ?_
  refine Tr.valG rfl (V.eql rfl rfl rfl) rfl ?_
  refine Tr.val (V.pick rfl rfl) rfl ?_
  refine Tr.val (V.assign rfl) rfl ?_
  refine Tr.lNil ?_
  refine Tr.thenN ?_
  refine Tr.ret ?_
  refine Tr.out1 rfl (Res.tmp rfl) fun w hw => ?_
  exact ⟨rfl, ((((hq1.trans hq2).trans hq3).trans hq4).trans hw).sub (List.nil_sublist _)⟩

end Go.Proofs.YtnhfmmohdiccgaaDoor
