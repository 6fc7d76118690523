/-
  hatchwaylaw08: shown. (Printed by a program of this session over its walk printer.)
-/
import Derived.Test.YtgkndcincgpmdaaPlainLaw8
import Derived.Test.YtgkndcincgpmdaaCurveC
namespace Go.Proofs.Ytgkndcincgpmdaa
open Go.Sym Plain
set_option linter.unusedVariables false
set_option maxRecDepth 20000

theorem shown8_true (w : World) : Calls Try.prog 11 #[] w fun r w' => r = .returned (.bool true) ∧ Hp w [] [] w' := by
  obtain ⟨A, hA⟩ : ∃ A, A = leB nA 32 := ⟨_, rfl⟩
  obtain ⟨D, hD⟩ : ∃ D, D = leB nB 32 := ⟨_, rfl⟩
  obtain ⟨X, hX⟩ : ∃ X, X = leB nX 32 := ⟨_, rfl⟩
  have hAl : A.length = 32 := by rw [hA]; exact leB_len _ _
  have hDl : D.length = 32 := by rw [hD]; exact leB_len _ _
  have hXl : X.length = 32 := by rw [hX]; exact leB_len _ _
  have hAD : ¬ A = D := by rw [hA, hD]; exact apart_ab
  have hXZ : ¬ X = zeroK := by rw [hX]; exact apart_x
  have f1 : multL k1B nineK = A := by rw [hA]; exact pub1
  have f2 : multL k2B nineK = D := by rw [hD]; exact pub2
  have f6 : multL k6B nineK = A := by rw [hA]; exact pub6
  have f3 : multL k1B D = X := by rw [hD, hX]; exact shared1
  have f4 : multL k2B A = X := by rw [hA, hX]; exact shared2
  have f5 : multL k1B zeroK = zeroK := shared0
  clear hA hD hX
  refine Tr.enter Try.func11 rfl Try.ntmps11 rfl (Hp.refl w) ?_
  refine Tr.seq ?_
  refine Tr.region ?_
  refine Tr.val (V.assign rfl) rfl ?_
  refine Tr.lNil ?_
  refine Tr.thenN ?_
  refine Tr.seq ?_
  refine Tr.region ?_
  refine Tr.val ((V.buildA (vs := [(0, U8 1#8)]) (cs := (k1B.map U8).toArray) Try.runUnderlying23 Try.sizeOf5 Try.zeroValue23 (fun a he => by simp [Act.eval]) rfl)) rfl ?_
  refine Tr.op (W.call1 (args1 rfl) Try.call15 rfl (fun w1 _ => by have h := public_any k1B w1 rfl; rw [f1] at h; exact h) ?_)
  refine Tr.op (W.alloc (cs := (List.replicate 32 0#8).map U8) Try.zeroValue23 rfl rfl fun g1 => ?_)
  refine Tr.op (W.storeAll (vs := A.map U8) (cs := (List.replicate 32 0#8).map U8) Try.sizeOf23 rfl rfl (by rw [List.length_map, hAl]) rfl (one8 _) (by repeat (first | exact Upd.head | apply Upd.tail)) ?_)
  refine Tr.lNil ?_
  refine Tr.thenN ?_
  refine Tr.seq ?_
  refine Tr.region ?_
  refine Tr.val ((V.buildA (vs := [(0, U8 0#8), (1, U8 1#8)]) (cs := (k2B.map U8).toArray) Try.runUnderlying23 Try.sizeOf5 Try.zeroValue23 (fun a he => by simp [Act.eval]) rfl)) rfl ?_
  refine Tr.op (W.call1 (args1 rfl) Try.call15 rfl (fun w1 _ => by have h := public_any k2B w1 rfl; rw [f2] at h; exact h) ?_)
  refine Tr.op (W.alloc (cs := (List.replicate 32 0#8).map U8) Try.zeroValue23 rfl rfl fun g2 => ?_)
  refine Tr.op (W.storeAll (vs := D.map U8) (cs := (List.replicate 32 0#8).map U8) Try.sizeOf23 rfl rfl (by rw [List.length_map, hDl]) rfl (one8 _) (by repeat (first | exact Upd.head | apply Upd.tail)) ?_)
  refine Tr.lNil ?_
  refine Tr.thenN ?_
  refine Tr.seq ?_
  refine Tr.region ?_
  refine Tr.val ((V.buildA (vs := [(0, U8 1#8)]) (cs := (k1B.map U8).toArray) Try.runUnderlying23 Try.sizeOf5 Try.zeroValue23 (fun a he => by simp [Act.eval]) rfl)) rfl ?_
  refine Tr.val (V.loadN (cs := D.map U8) Try.isAgg23 (by rw [List.length_map, hDl]; exact Try.sizeOf23) rfl (V.cellsB (by repeat (first | exact List.Mem.head _ | apply List.Mem.tail)))) rfl ?_
  refine Tr.op (W.call1 (args2 rfl rfl) Try.call13 rfl (fun w1 _ => by have h := shared_any k1B D w1 rfl hDl; rw [f3, if_neg hXZ] at h; exact h) ?_)
  refine Tr.val (V.move rfl) rfl ?_
  refine Tr.val (V.extract rfl rfl) rfl ?_
  refine Tr.val (V.extract rfl rfl) rfl ?_
  refine Tr.op (W.alloc (cs := (List.replicate 32 0#8).map U8) Try.zeroValue23 rfl rfl fun g3 => ?_)
  refine Tr.op (W.storeAll (vs := X.map U8) (cs := (List.replicate 32 0#8).map U8) Try.sizeOf23 rfl rfl (by rw [List.length_map, hXl]) rfl (one8 _) (by repeat (first | exact Upd.head | apply Upd.tail)) ?_)
  refine Tr.val (V.assign rfl) rfl ?_
  refine Tr.lNil ?_
  refine Tr.thenN ?_
  refine Tr.seq ?_
  refine Tr.region ?_
  refine Tr.val ((V.buildA (vs := [(0, U8 0#8), (1, U8 1#8)]) (cs := (k2B.map U8).toArray) Try.runUnderlying23 Try.sizeOf5 Try.zeroValue23 (fun a he => by simp [Act.eval]) rfl)) rfl ?_
  refine Tr.val (V.loadN (cs := A.map U8) Try.isAgg23 (by rw [List.length_map, hAl]; exact Try.sizeOf23) rfl (V.cellsB (by repeat (first | exact List.Mem.head _ | apply List.Mem.tail)))) rfl ?_
  refine Tr.op (W.call1 (args2 rfl rfl) Try.call13 rfl (fun w1 _ => by have h := shared_any k2B A w1 rfl hAl; rw [f4, if_neg hXZ] at h; exact h) ?_)
  refine Tr.val (V.move rfl) rfl ?_
  refine Tr.val (V.extract rfl rfl) rfl ?_
  refine Tr.val (V.extract rfl rfl) rfl ?_
  refine Tr.op (W.alloc (cs := (List.replicate 32 0#8).map U8) Try.zeroValue23 rfl rfl fun g5 => ?_)
  refine Tr.op (W.storeAll (vs := X.map U8) (cs := (List.replicate 32 0#8).map U8) Try.sizeOf23 rfl rfl (by rw [List.length_map, hXl]) rfl (one8 _) (by repeat (first | exact Upd.head | apply Upd.tail)) ?_)
  refine Tr.val (V.assign rfl) rfl ?_
  refine Tr.lNil ?_
  refine Tr.thenN ?_
  refine Tr.seq ?_
  refine Tr.region ?_
  refine Tr.val ((V.buildA (vs := [(0, U8 1#8)]) (cs := (k1B.map U8).toArray) Try.runUnderlying23 Try.sizeOf5 Try.zeroValue23 (fun a he => by simp [Act.eval]) rfl)) rfl ?_
  refine Tr.val ((V.buildA (vs := []) (cs := (zeroK.map U8).toArray) Try.runUnderlying23 Try.sizeOf5 Try.zeroValue23 (fun a he => by simp [Act.eval]) rfl)) rfl ?_
  refine Tr.op (W.call1 (args2 rfl rfl) Try.call13 rfl (fun w1 _ => by have h := shared_any k1B zeroK w1 rfl rfl; rw [f5, if_pos rfl] at h; exact h) ?_)
  refine Tr.val (V.move rfl) rfl ?_
  refine Tr.val (V.extract rfl rfl) rfl ?_
  refine Tr.val (V.extract rfl rfl) rfl ?_
  refine Tr.op (W.alloc (cs := (List.replicate 32 0#8).map U8) Try.zeroValue23 rfl rfl fun g7 => ?_)
  refine Tr.op (W.storeAll (vs := zeroK.map U8) (cs := (List.replicate 32 0#8).map U8) Try.sizeOf23 rfl rfl (by rw [List.length_map, show zeroK.length = 32 from rfl]) rfl (one8 _) (by repeat (first | exact Upd.head | apply Upd.tail)) ?_)
  refine Tr.val (V.assign rfl) rfl ?_
  refine Tr.lNil ?_
  refine Tr.thenN ?_
  refine Tr.seq ?_
  refine Tr.regionD [0, 0, 3, 7, 15, 31, 63, 127, 255, 511, 1023, 2047, 4095, 8191, 16383, 32767, 65535, 65535, 196607, 524287, 1048575, 2097151, 4194303, 4194303, 16777215, 33554431, 67108863, 134217727, 134217727, 536870911, 134217727, 2147483647, 4294967295, 8589934591] [] (.soft 0 (.soft 1 (.pure 2 (.pure 3 (.pure 4 (.pure 5 (.pure 6 (.pure 7 (.pure 8 (.pure 9 (.pure 10 (.pure 11 (.pure 12 (.pure 13 (.pure 14 (.pure 15 (.soft 16 (.pure 17 (.soft 18 (.pure 19 (.pure 20 (.pure 21 (.soft 22 (.soft 23 (.pure 24 (.pure 25 (.pure 26 (.pure 27 (.pure 28 (.soft 29 (.soft 30 (.pure 31 (.pure 32 (.pure 33 .done)))))))))))))))))))))))))))))))))) mixed (by kernel_rfl) ?_
  refine TrP.soft rfl (V.loadN (cs := X.map U8) Try.isAgg23 (by rw [List.length_map, hXl]; exact Try.sizeOf23) rfl (V.cellsB (by repeat (first | exact List.Mem.head _ | apply List.Mem.tail)))) rfl ?_
  refine TrP.soft rfl (V.loadN (cs := X.map U8) Try.isAgg23 (by rw [List.length_map, hXl]; exact Try.sizeOf23) rfl (V.cellsB (by repeat (first | exact List.Mem.head _ | apply List.Mem.tail)))) rfl ?_
  refine TrP.pure rfl (fun _ => V.eqlA (b := true) arr23 rfl rfl hXl hXl (decide_eq_true rfl)) rfl ?_
  refine TrP.pure rfl (fun _ => V.move rfl) rfl ?_
  refine TrP.pureG rfl rfl (fun _ => V.move rfl) rfl ?_
  refine TrP.pureG rfl rfl (fun _ => V.eql rfl rfl rfl) rfl ?_
  refine TrP.pure rfl (fun _ => V.pick rfl rfl) rfl ?_
  refine TrP.pure rfl (fun _ => V.move rfl) rfl ?_
  refine TrP.pureG rfl rfl (fun _ => V.move rfl) rfl ?_
  refine TrP.pureG rfl rfl (fun _ => V.eql rfl rfl rfl) rfl ?_
  refine TrP.pure rfl (fun _ => V.pick rfl rfl) rfl ?_
  refine TrP.pure rfl (fun _ => V.move rfl) rfl ?_
  refine TrP.pureG rfl rfl (fun _ => V.move rfl) rfl ?_
  refine TrP.pureG rfl rfl (fun _ => V.eql rfl rfl rfl) rfl ?_
  refine TrP.pure rfl (fun _ => V.pick rfl rfl) rfl ?_
  refine TrP.pure rfl (fun _ => V.move rfl) rfl ?_
  refine TrP.softG rfl rfl (V.loadN (cs := A.map U8) Try.isAgg23 (by rw [List.length_map, hAl]; exact Try.sizeOf23) rfl (V.cellsB (by repeat (first | exact List.Mem.head _ | apply List.Mem.tail)))) rfl ?_
  refine TrP.pureG rfl rfl (fun _ => (V.buildA (vs := [(0, U8 6#8)]) (cs := (k6B.map U8).toArray) Try.runUnderlying23 Try.sizeOf5 Try.zeroValue23 (fun a he => by simp [Act.eval]) rfl)) rfl ?_
  refine TrP.callG rfl rfl (args1 rfl) Try.call15 rfl (fun w1 _ => by have h := public_any k6B w1 rfl; rw [f6] at h; exact h) ?_
  refine TrP.pureG rfl rfl (fun _ => V.eqlA (b := true) arr23 rfl rfl hAl hAl (decide_eq_true rfl)) rfl ?_
  refine TrP.pure rfl (fun _ => V.pick rfl rfl) rfl ?_
  refine TrP.pure rfl (fun _ => V.move rfl) rfl ?_
  refine TrP.softG rfl rfl (V.loadN (cs := A.map U8) Try.isAgg23 (by rw [List.length_map, hAl]; exact Try.sizeOf23) rfl (V.cellsB (by repeat (first | exact List.Mem.head _ | apply List.Mem.tail)))) rfl ?_
  refine TrP.softG rfl rfl (V.loadN (cs := D.map U8) Try.isAgg23 (by rw [List.length_map, hDl]; exact Try.sizeOf23) rfl (V.cellsB (by repeat (first | exact List.Mem.head _ | apply List.Mem.tail)))) rfl ?_
  refine TrP.pureG rfl rfl (fun _ => V.neqA (b := true) arr23 rfl rfl hAl hDl (by simpa using hAD)) rfl ?_
  refine TrP.pure rfl (fun _ => V.pick rfl rfl) rfl ?_
  refine TrP.pure rfl (fun _ => V.move rfl) rfl ?_
  refine TrP.pureG rfl rfl (fun _ => (V.buildA (vs := [(0, U8 1#8)]) (cs := (k1B.map U8).toArray) Try.runUnderlying23 Try.sizeOf5 Try.zeroValue23 (fun a he => by simp [Act.eval]) rfl)) rfl ?_
  refine TrP.pureG rfl rfl (fun _ => (V.buildA (vs := [(0, U8 9#8)]) (cs := (nineK.map U8).toArray) Try.runUnderlying23 Try.sizeOf5 Try.zeroValue23 (fun a he => by simp [Act.eval]) rfl)) rfl ?_
  refine TrP.callG rfl rfl (args2 rfl rfl) Try.call12 rfl (fun w1 _ => by have h := mult_any k1B nineK w1 rfl rfl; rw [f1] at h; exact h) ?_
  refine TrP.softG rfl rfl (V.loadN (cs := A.map U8) Try.isAgg23 (by rw [List.length_map, hAl]; exact Try.sizeOf23) rfl (V.cellsB (by repeat (first | exact List.Mem.head _ | apply List.Mem.tail)))) rfl ?_
  refine TrP.pureG rfl rfl (fun _ => V.eqlA (b := true) arr23 rfl rfl hAl hAl (decide_eq_true rfl)) rfl ?_
  refine TrP.pure rfl (fun _ => V.pick rfl rfl) rfl ?_
  refine TrP.pure rfl (fun _ => V.assign rfl) rfl ?_
  refine TrP.done ?_
  refine Tr.thenN ?_
  refine Tr.ret ?_
  refine Tr.out1 rfl (Res.tmp rfl) fun w hw => ?_
  exact ⟨rfl, hw.sub (List.nil_sublist _)⟩

end Go.Proofs.Ytgkndcincgpmdaa
