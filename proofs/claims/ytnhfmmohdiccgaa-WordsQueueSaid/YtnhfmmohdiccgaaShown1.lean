/-
  The contract of hatchwaylaw01.shown: it returns true. (Printed by shown1.py over the walk printer of this session.)
-/
import Derived.Test.YtnhfmmohdiccgaaQueueA
import Derived.Test.YtnhfmmohdiccgaaWordsB
namespace Go.Proofs.Ytnhfmmohdiccgaa
open Go.Sym Plain

theorem shown_true (w : World) : Calls Try.prog 18 #[] w fun r w' => r = .returned (.bool true) ∧ Hp w [] [] w' := by
  refine Tr.enter Try.func18 rfl Try.ntmps18 rfl (Hp.refl w) ?_
  refine Tr.seq ?_
  refine Tr.region ?_
  refine Tr.val (V.assign rfl) rfl ?_
  refine Tr.lNil ?_
  refine Tr.thenN ?_
  refine Tr.seq ?_
  refine Tr.region ?_
  refine Tr.op (W.build (vs := [U8 1#8, U8 2#8, U8 3#8]) elem22 (fun a _ => by simp [Act.eval, List.range'_succ]) rfl (by simp [Value.cells]) (by omega) rfl fun g11 => ?_)
  refine Tr.op (W.call1 (args4 rfl rfl rfl rfl) Try.call20 rfl (fun w hw => get_ok (some ⟨g11, 0, none⟩) 3 3 1 2 false [1#8, 2#8, 3#8] w ((RdP.all (List.Mem.head _)).now hw) rfl (by omega) (by omega) (by omega) (by omega)) ?_)
  refine Tr.val (V.move rfl) rfl ?_
  refine Tr.val (V.extract rfl rfl) rfl ?_
  refine Tr.val (V.extract rfl rfl) rfl ?_
  refine Tr.val (V.assign rfl) rfl ?_
  refine Tr.val (V.assign rfl) rfl ?_
  refine Tr.lNil ?_
  refine Tr.thenN ?_
  refine Tr.seq ?_
  refine Tr.region ?_
  refine Tr.op (W.call (val := fun q : Nat => .pointer (some ⟨q, 0, none⟩)) (N := fun q => [QB q none 0 0 1]) (Px := fun _ => True)  (args1 rfl) Try.call30 rfl (fun w hw => newq_any 1 w) fun q _ => ?_)
  refine Tr.val (V.assign rfl) rfl ?_
  refine Tr.lNil ?_
  refine Tr.thenN ?_
  refine Tr.seq ?_
  refine Tr.seq ?_
  refine Tr.region ?_
  refine Tr.val (V.move rfl) rfl ?_
  refine Tr.val (V.eqlPtr Try.runUnderlying41 rfl rfl) rfl ?_
  refine Tr.lNil ?_
  refine Tr.thenN ?_
  refine Tr.condF rfl ?_
  refine Tr.skip ?_
  refine Tr.thenN ?_
  refine Tr.seq ?_
  refine Tr.region ?_
  refine Tr.val (V.move rfl) rfl ?_
  refine Tr.op (W.callX (X := [QB q none 0 0 1]) (val := fun _ : Nat × Nat × List Value => .bool true) (Y := fun x => [QB q (some ⟨x.1, 0, none⟩) 1 x.2.1 1, ⟨x.1, 3, [IV 7] ++ x.2.2⟩]) (Px := fun x => ([IV 7] ++ x.2.2).length = x.2.1)  (args2 rfl rfl) Try.call31 rfl (List.Perm.refl _) (fun w hx _ => push_nil q 1 7 w (by decide) hx) fun x hc1 => ?_)
  obtain ⟨g1, c1, junk1⟩ := x
  simp only at hc1 ⊢
  refine Tr.val (V.assign rfl) rfl ?_
  refine Tr.lNil ?_
  refine Tr.thenN ?_
  refine Tr.seq ?_
  refine Tr.region ?_
  refine Tr.val (V.move rfl) rfl ?_
  refine Tr.op (W.callX (X := [QB q (some ⟨g1, 0, none⟩) 1 c1 1]) (val := fun _ : Unit => .bool false) (Y := fun x => [QB q (some ⟨g1, 0, none⟩) 1 c1 1]) (Px := fun x => True)  (args2 rfl rfl) Try.call31 rfl (List.Perm.refl _) (fun w hx _ => (push_full q (some ⟨g1, 0, none⟩) 1 c1 8 w hx).mono fun _ _ h => ⟨(), h.1, h.2, trivial⟩) fun _ _ => ?_)
  refine Tr.val (V.assign rfl) rfl ?_
  refine Tr.lNil ?_
  refine Tr.thenN ?_
  refine Tr.seq ?_
  refine Tr.region ?_
  refine Tr.val (V.move rfl) rfl ?_
  refine Tr.op (W.callX (X := [QB q (some ⟨g1, 0, none⟩) 1 c1 1, ⟨g1, 3, [IV 7] ++ junk1⟩]) (val := fun _ : Nat × Nat × List Value => .tuple #[IV 7, .bool true]) (Y := fun x => [QB q (some ⟨x.1, 0, none⟩) 0 x.2.1 1, ⟨x.1, 3, [] ++ x.2.2⟩]) (Px := fun x => True)  (args1 rfl) Try.call32 rfl (List.Perm.refl _) (fun w hx _ => (pop_own q g1 0 c1 7 [] junk1 1 w rfl (by simpa using hc1) (by simp) (by omega) hx).mono fun _ _ ⟨x, h⟩ => ⟨x, h.1, h.2.1, trivial⟩) fun x _ => ?_)
  refine Tr.val (V.move rfl) rfl ?_
  refine Tr.val (V.extract rfl rfl) rfl ?_
  refine Tr.val (V.extract rfl rfl) rfl ?_
  refine Tr.val (V.assign rfl) rfl ?_
  refine Tr.val (V.assign rfl) rfl ?_
  refine Tr.lNil ?_
  refine Tr.thenN ?_
  refine Tr.seq ?_
  refine Tr.region ?_
  refine Tr.val (V.move rfl) rfl ?_
  refine Tr.op (W.callX (X := [QB q (some ⟨x.1, 0, none⟩) 0 x.2.1 1]) (val := fun _ : Unit => .tuple #[IV 0, .bool false]) (Y := fun _ => [QB q (some ⟨x.1, 0, none⟩) 0 x.2.1 1]) (Px := fun x => True)  (args1 rfl) Try.call32 rfl (List.Perm.refl _) (fun w hx _ => (pop_empty q (some ⟨x.1, 0, none⟩) x.2.1 1 w hx).mono fun _ _ h => ⟨(), h.1, h.2, trivial⟩) fun _ _ => ?_)
  refine Tr.val (V.move rfl) rfl ?_
  refine Tr.val (V.extract rfl rfl) rfl ?_
  refine Tr.val (V.extract rfl rfl) rfl ?_
  refine Tr.val (V.assign rfl) rfl ?_
  refine Tr.val (V.assign rfl) rfl ?_
  refine Tr.lNil ?_
  refine Tr.thenN ?_
  refine Tr.seq ?_
  refine Tr.region ?_
  refine Tr.op (W.call (val := fun x : Nat × Nat × List Value => .slice (some ⟨x.1, 0, none⟩) (0 + effI 2) x.2.1) (N := fun x => [⟨x.1, 5, (([] : List (BitVec 8)) ++ putW true 258#64 (effI 2)).map U8 ++ x.2.2⟩]) (Px := fun _ => True) (vs := [_, _, U64 258#64, _]) (args4 rfl rfl rfl rfl) Try.call19 rfl (fun w hw => (put_nil 2 258#64 true w (by decide)).mono fun _ _ ⟨x, h⟩ => ⟨x, h.1, h.2.1, trivial⟩) fun y _ => ?_)
  obtain ⟨g32, c32, junk32⟩ := y
  refine Tr.val (V.bytesStr Try.runUnderlying22 Try.runUnderlying9 Try.runUnderlying5 rfl (RdP.headL (List.Mem.head _)) (by decide)) rfl ?_
  refine Tr.val (V.eqlS (b := true) (j := bstr [1#8, 2#8]) rfl rfl (by rw [show ([] : List (BitVec 8)) ++ putW true 258#64 (effI 2) = [1#8, 2#8] from by decide]; exact bstr_same _)) rfl ?_
  refine Tr.val (V.move rfl) rfl ?_
  refine Tr.valG rfl (V.move rfl) rfl ?_
  refine Tr.valG rfl (V.eql64 (Y := 770#64) (b := true) rfl rfl (by decide)) rfl ?_
  refine Tr.val (V.pick rfl rfl) rfl ?_
  refine Tr.val (V.move rfl) rfl ?_
  refine Tr.valG rfl (V.move rfl) rfl ?_
  refine Tr.val (V.pick rfl rfl) rfl ?_
  refine Tr.val (V.move rfl) rfl ?_
  refine Tr.opG rfl (W.build (vs := [U8 49#8, U8 50#8, U8 51#8, U8 52#8, U8 53#8, U8 54#8, U8 55#8, U8 56#8, U8 57#8]) elem22 (fun a _ => by simp [Act.eval, List.range'_succ]) rfl (by simp [Value.cells]) (by omega) rfl fun g43 => ?_)
  refine Tr.subL (List.Sublist.cons_cons _ (List.nil_sublist _)) ?_
  refine Tr.opG rfl (W.stringish (cs := [U8 49#8, U8 50#8, U8 51#8, U8 52#8, U8 53#8, U8 54#8, U8 55#8, U8 56#8, U8 57#8]) Try.runUnderlying22 Try.runUnderlying5 rfl rfl (List.Perm.refl _) fun w1 hq1 hr1 _ => ?_)
  refine Tr.opG rfl (W.call1 (args1 rfl) Try.call23 rfl (fun w hw => crc_any (some ⟨g43, 0, none⟩) 9 9 [49#8, 50#8, 51#8, 52#8, 53#8, 54#8, 55#8, 56#8, 57#8] w ((RdP.old hr1 (fun _ _ => by simp)).now hw) rfl (by omega)) ?_)
  refine Tr.valG rfl (V.eql32 (Y := 3421780262#32) (b := true) rfl rfl (by decide +kernel)) rfl ?_
  refine Tr.val (V.pick rfl rfl) rfl ?_
  refine Tr.val (V.move rfl) rfl ?_
  refine Tr.opG rfl (W.call1 (vs := [U32 2147483649#32, _]) (args2 rfl rfl) Try.call25 rfl (fun w _ => rot_any _ 1 w) ?_)
  refine Tr.valG rfl (V.eql32 (Y := 3#32) (b := true) rfl rfl (by decide)) rfl ?_
  refine Tr.val (V.pick rfl rfl) rfl ?_
  refine Tr.val (V.move rfl) rfl ?_
  refine Tr.opG rfl (W.build (vs := [U8 97#8]) elem22 (fun a _ => by simp [Act.eval, List.range'_succ]) rfl (by simp [Value.cells]) (by omega) rfl fun g53 => ?_)
  
  refine Tr.opG rfl (W.stringish (cs := [U8 97#8]) Try.runUnderlying22 Try.runUnderlying5 rfl rfl (List.Perm.refl _) fun w2 hq2 hr2 _ => ?_)
  refine Tr.opG rfl (W.build (vs := [U8 97#8]) elem22 (fun a _ => by simp [Act.eval, List.range'_succ]) rfl (by simp [Value.cells]) (by omega) rfl fun g55 => ?_)
  refine Tr.opG rfl (W.stringish (cs := [U8 97#8]) Try.runUnderlying22 Try.runUnderlying5 rfl rfl (List.Perm.refl _) fun w3 hq3 hr3 _ => ?_)
  refine Tr.opG rfl (W.call1 (args2 rfl rfl) Try.call29 rfl (fun w hw => same_any (some ⟨g53, 0, none⟩) (some ⟨g55, 0, none⟩) 1 1 1 1 [97#8] [97#8] w ((RdP.old ((RdP.old hr2 (fun _ _ => by simp)).now hq3) (fun _ _ => by simp)).now hw) ((RdP.old hr3 (fun _ _ => by simp)).now hw) rfl rfl (by omega) (by omega)) ?_)
  refine Tr.val (V.pick rfl rfl) rfl ?_
  refine Tr.val (V.move rfl) rfl ?_
  refine Tr.opG rfl (W.build (vs := [U8 97#8]) elem22 (fun a _ => by simp [Act.eval, List.range'_succ]) rfl (by simp [Value.cells]) (by omega) rfl fun g60 => ?_)
  refine Tr.opG rfl (W.stringish (cs := [U8 97#8]) Try.runUnderlying22 Try.runUnderlying5 rfl rfl (List.Perm.refl _) fun w4 hq4 hr4 _ => ?_)
  refine Tr.opG rfl (W.call1 (args2 rfl rfl) Try.call29 rfl (fun w hw => same_any (some ⟨g60, 0, none⟩) none 1 1 0 0 [97#8] [] w ((RdP.old hr4 (fun _ _ => by simp)).now hw) (fun j u h => by simp at h) rfl rfl (by omega) (by omega)) ?_)
  refine Tr.valG rfl (V.not rfl) rfl ?_
  refine Tr.val (V.pick rfl rfl) rfl ?_
  refine Tr.val (V.move rfl) rfl ?_
  refine Tr.valG rfl (V.move rfl) rfl ?_
  refine Tr.val (V.pick rfl rfl) rfl ?_
  refine Tr.val (V.move rfl) rfl ?_
  refine Tr.valG rfl (V.move rfl) rfl ?_
  refine Tr.valG rfl (V.not rfl) rfl ?_
  refine Tr.val (V.pick rfl rfl) rfl ?_
  refine Tr.val (V.move rfl) rfl ?_
  refine Tr.valG rfl (V.move rfl) rfl ?_
  refine Tr.valG rfl (V.eql (b := true) rfl rfl rfl) rfl ?_
  refine Tr.val (V.pick rfl rfl) rfl ?_
  refine Tr.val (V.move rfl) rfl ?_
  refine Tr.valG rfl (V.move rfl) rfl ?_
  refine Tr.val (V.pick rfl rfl) rfl ?_
  refine Tr.val (V.move rfl) rfl ?_
  refine Tr.valG rfl (V.move rfl) rfl ?_
  refine Tr.valG rfl (V.not rfl) rfl ?_
  refine Tr.val (V.pick rfl rfl) rfl ?_
  refine Tr.val (V.assign rfl) rfl ?_
  refine Tr.lNil ?_
  refine Tr.thenN ?_
  refine Tr.ret ?_
  refine Tr.out1 rfl (Res.tmp rfl) fun w hw => ?_
  exact ⟨rfl, hq1.trans (hq2.trans (hq3.trans (hq4.trans hw)))⟩

end Go.Proofs.Ytnhfmmohdiccgaa
