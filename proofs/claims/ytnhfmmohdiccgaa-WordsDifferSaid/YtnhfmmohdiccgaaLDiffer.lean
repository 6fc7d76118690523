/-
  hatchwaylaw01.WordsDiffer returns true, whatever its arguments. (Printed by law1.py over the walk printer of this session.)
-/
import Derived.Test.YtnhfmmohdiccgaaRows
import Derived.Test.YtnhfmmohdiccgaaFrame
import Derived.Test.YtnhfmmohdiccgaaShown1
import Derived.Test.YtnhfmmohdiccgaaPlainLaw1
import Derived.Test.YtnhfmmohdiccgaaAny1
namespace Go.Proofs.Ytnhfmmohdiccgaa
open Go.Sym Plain
set_option linter.unusedVariables false

theorem wordsDiffer_run (p q : Option Addr) (m c m2 c2 : Nat) (xs ys : List (BitVec 8)) (w : World) (hx : Bytes w p m c xs) (hy : Bytes w q m2 c2 ys) :
    Calls Try.prog 10 [.slice p m c, .slice q m2 c2].toArray w fun r w' => r = .returned (.bool true) ∧ Hp w [] [] w' := by
  obtain ⟨j, hkj⟩ : ∃ k, k = Nat.min m2 100 := ⟨_, rfl⟩
  have hj1 : j ≤ m2 := by rw [hkj]; exact Nat.min_le_left _ _
  have hj2 : j ≤ 100 := by rw [hkj]; exact Nat.min_le_right _ _
  obtain ⟨k, hkk⟩ : ∃ k, k = Nat.min m j := ⟨_, rfl⟩
  have hk1 : k ≤ m := by rw [hkk]; exact Nat.min_le_left _ _
  have hk2 : k ≤ j := by rw [hkk]; exact Nat.min_le_right _ _
  have hb := hx.part hk1
  have hd := hy.part hj1
  have hle := hx.le
  have hle2 := hy.le
  have hmx := hx.max
  have hmy := hy.max
  have hbl := hb.length
  have hdl := hd.length
  have hxl : (xorL (xs.take k) (ys.take j)).length = k := by rw [xorL_len, hbl, hdl]; omega
  have hx0 : (xorL (xs.take k) (xs.take k)).length = k := by rw [xorL_len, hbl]; omega
  have hxx : xorL (xorL (xs.take k) (ys.take j)) (ys.take j) = xs.take k := xorL_twice _ _ (by omega)
  have hzz : xorL (xs.take k) (xs.take k) = List.replicate k 0#8 := by rw [xorL_self, hbl]
  have hcc : xorL (ys.take j) (xs.take k) = xorL (xs.take k) (ys.take j) := xorL_comm _ _
  refine Tr.enter Try.func10 rfl Try.ntmps10 rfl (Hp.refl w) ?_
  refine Tr.seq ?_
  refine Tr.region ?_
  refine Tr.val (V.assign rfl) rfl ?_
  refine Tr.lNil ?_
  refine Tr.thenN ?_
  refine Tr.seq ?_
  refine Tr.region ?_
  refine Tr.op (W.call1 (args0) Try.call18 rfl (fun w _ => shown_true w) ?_)
  refine Tr.val (V.assign rfl) rfl ?_
  refine Tr.lNil ?_
  refine Tr.thenN ?_
  refine Tr.seq ?_
  refine Tr.region ?_
  refine Tr.val (V.move rfl) rfl ?_
  refine Tr.val (V.move rfl) rfl ?_
  refine Tr.val (V.len Try.runUnderlying22 rfl) rfl ?_
  refine Tr.val ((by rw [hkj]; exact V.minN (b := 100) rfl rfl : VOp Try.prog _ _ _ _ _ _ _ (.int .i64 (j : Int)))) rfl ?_
  refine Tr.val (V.cut Try.runUnderlying22 Try.sizeOf5 rfl rfl (by omega)) rfl ?_
  refine Tr.val (V.assign rfl) rfl ?_
  refine Tr.lNil ?_
  refine Tr.thenN ?_
  refine Tr.seq ?_
  refine Tr.region ?_
  refine Tr.val (V.move rfl) rfl ?_
  refine Tr.val (V.move rfl) rfl ?_
  refine Tr.val (V.len Try.runUnderlying22 rfl) rfl ?_
  refine Tr.val (V.move rfl) rfl ?_
  refine Tr.val (V.len Try.runUnderlying22 rfl) rfl ?_
  refine Tr.val ((by rw [hkk]; exact V.minN rfl rfl : VOp Try.prog _ _ _ _ _ _ _ (.int .i64 (k : Int)))) rfl ?_
  refine Tr.val (V.cut Try.runUnderlying22 Try.sizeOf5 rfl rfl (by omega)) rfl ?_
  refine Tr.val (V.assign rfl) rfl ?_
  refine Tr.lNil ?_
  refine Tr.thenN ?_
  refine Tr.seq ?_
  refine Tr.region ?_
  refine Tr.val (V.move rfl) rfl ?_
  refine Tr.val (V.move rfl) rfl ?_
  refine Tr.op (W.call (val := fun x : Nat => .slice (some ⟨x, 0, none⟩) (xorL (xs.take k) (ys.take j)).length (xorL (xs.take k) (ys.take j)).length) (N := fun x => [⟨x, 5, (xorL (xs.take k) (ys.take j)).map U8⟩]) (Px := fun _ => True)  (args2 rfl rfl) Try.call27 rfl (fun w1 hw => (xor_any p q k c j c2 (xs.take k) (ys.take j) w1 ((hb.old).now hw) ((hd.old).now hw) hb.length hd.length (by omega) (by omega)).mono fun _ _ ⟨x, h⟩ => ⟨x, h.1, h.2, trivial⟩) fun g22 _ => ?_)
  refine Tr.val (V.move rfl) rfl ?_
  refine Tr.op (W.call (val := fun x : Nat => .slice (some ⟨x, 0, none⟩) (xorL (xorL (xs.take k) (ys.take j)) (ys.take j)).length (xorL (xorL (xs.take k) (ys.take j)) (ys.take j)).length) (N := fun x => [⟨x, 5, (xorL (xorL (xs.take k) (ys.take j)) (ys.take j)).map U8⟩]) (Px := fun _ => True)  (args2 rfl rfl) Try.call27 rfl (fun w1 hw => (xor_any (some ⟨g22, 0, none⟩) q _ _ j c2 (xorL (xs.take k) (ys.take j)) (ys.take j) w1 ((RdP.all (List.Mem.head _)).now hw) ((hd.old).now hw) rfl hdl (by omega) (by omega)).mono fun _ _ ⟨x, h⟩ => ⟨x, h.1, h.2, trivial⟩) fun g24 _ => ?_)
  refine Tr.val (V.assign rfl) rfl ?_
  refine Tr.lNil ?_
  refine Tr.thenN ?_
  refine Tr.seq ?_
  refine Tr.regionD [0, 1, 3, 7, 3, 19, 63, 127, 255, 511, 511, 2047, 4095, 511, 8703, 25087, 57855, 131071, 262143, 524287, 1048575, 1048575, 4194303, 8388607, 1048575, 1048575, 58720255, 125829119, 268435455, 536870911, 1073741823] [] (.pure 0 (.pure 1 (.pure 2 (.soft 3 (.pure 4 (.soft 5 (.pure 6 (.pure 7 (.pure 8 (.pure 9 (.pure 10 (.pure 13 (.pure 14 (.two 11 (.soft 12 (.hard 15 (.soft 16 (.pure 17 (.pure 18 (.pure 19 (.pure 20 (.pure 21 (.pure 24 (.pure 25 (.hard 22 (.soft 23 (.hard 26 (.soft 27 (.pure 28 (.pure 29 (.pure 30 .done))))))))))))))))) 15 (.soft 16 (.hard 11 (.soft 12 (.pure 17 (.pure 18 (.pure 19 (.pure 20 (.pure 21 (.pure 24 (.pure 25 (.hard 22 (.soft 23 (.hard 26 (.soft 27 (.pure 28 (.pure 29 (.pure 30 .done))))))))))))))))))))))))))))))) mixed (by kernel_rfl) ?_
  refine TrP.pure rfl (fun _ => V.move rfl) rfl ?_
  refine TrP.pure rfl (fun _ => V.move rfl) rfl ?_
  refine TrP.pureG rfl rfl (fun _ => V.move rfl) rfl ?_
  refine TrP.softG rfl rfl (V.bytesStr Try.runUnderlying22 Try.runUnderlying9 Try.runUnderlying5 rfl (RdP.all (by repeat (first | exact List.Mem.head _ | apply List.Mem.tail))) rfl) rfl ?_
  refine TrP.pureG rfl rfl (fun _ => V.move rfl) rfl ?_
  refine TrP.softG rfl rfl (V.bytesStr Try.runUnderlying22 Try.runUnderlying9 Try.runUnderlying5 rfl hb.old hbl) rfl ?_
  refine TrP.pureG rfl rfl (fun _ => V.eqlS (b := true) rfl rfl (by rw [hxx]; exact bstr_same _)) rfl ?_
  refine TrP.pure rfl (fun _ => V.pick rfl rfl) rfl ?_
  refine TrP.pure rfl (fun _ => V.move rfl) rfl ?_
  refine TrP.pureG rfl rfl (fun _ => V.move rfl) rfl ?_
  refine TrP.pureG rfl rfl (fun _ => V.move rfl) rfl ?_
  refine TrP.pureG rfl rfl (fun _ => V.move rfl) rfl ?_
  refine TrP.pureG rfl rfl (fun _ => V.len Try.runUnderlying22 rfl) rfl ?_
  refine TrP.twoG rfl rfl rfl rfl ?_ ?_
  · refine W.call (val := fun x : Nat => .slice (some ⟨x, 0, none⟩) (xorL (xs.take k) (xs.take k)).length (xorL (xs.take k) (xs.take k)).length) (N := fun x => [⟨x, 5, (xorL (xs.take k) (xs.take k)).map U8⟩]) (Px := fun _ => True)  (args2 rfl rfl) Try.call27 rfl (fun w1 hw => (xor_any p p k c k c (xs.take k) (xs.take k) w1 ((hb.old).now hw) ((hb.old).now hw) hb.length hb.length (by omega) (by omega)).mono fun _ _ ⟨x, h⟩ => ⟨x, h.1, h.2, trivial⟩) fun g36 _ => ?_
    refine Tr.pOn (by first | exact List.Sublist.refl _ | exact List.sublist_cons_self _ _ | exact List.sublist_append_right _ _ | simp) ?_
    refine TrP.softG rfl rfl (V.bytesStr Try.runUnderlying22 Try.runUnderlying9 Try.runUnderlying5 rfl (RdP.all (by repeat (first | exact List.Mem.head _ | apply List.Mem.tail))) rfl) rfl ?_
    refine TrP.hardG rfl rfl (W.makeSlice (l := k) (c := k) elem22 rfl rfl rfl rfl (by omega) (by omega) (by omega) rfl fun g40 => ?_)
    refine Tr.pOn (by first | exact List.Sublist.refl _ | exact List.sublist_cons_self _ _ | exact List.sublist_append_right _ _ | simp) ?_
    refine TrP.softG rfl rfl (V.bytesStr Try.runUnderlying22 Try.runUnderlying9 Try.runUnderlying5 rfl (xs := List.replicate k 0#8) (by rw [List.map_replicate]; exact RdP.all (by repeat (first | exact List.Mem.head _ | apply List.Mem.tail))) (by simp)) rfl ?_
    refine TrP.pureG rfl rfl (fun _ => V.eqlS (b := true) rfl rfl (by rw [hzz]; exact bstr_same _)) rfl ?_
    refine TrP.pure rfl (fun _ => V.pick rfl rfl) rfl ?_
    refine TrP.pure rfl (fun _ => V.move rfl) rfl ?_
    refine TrP.pureG rfl rfl (fun _ => V.move rfl) rfl ?_
    refine TrP.pureG rfl rfl (fun _ => V.move rfl) rfl ?_
    refine TrP.pureG rfl rfl (fun _ => V.move rfl) rfl ?_
    refine TrP.pureG rfl rfl (fun _ => V.move rfl) rfl ?_
    refine TrP.hardG rfl rfl (W.call (val := fun x : Nat => .slice (some ⟨x, 0, none⟩) (xorL (xs.take k) (ys.take j)).length (xorL (xs.take k) (ys.take j)).length) (N := fun x => [⟨x, 5, (xorL (xs.take k) (ys.take j)).map U8⟩]) (Px := fun _ => True)  (args2 rfl rfl) Try.call27 rfl (fun w1 hw => (xor_any p q k c j c2 (xs.take k) (ys.take j) w1 ((hb.old).now hw) ((hd.old).now hw) hb.length hd.length (by omega) (by omega)).mono fun _ _ ⟨x, h⟩ => ⟨x, h.1, h.2, trivial⟩) fun g47 _ => ?_)
    refine Tr.pOn (by first | exact List.Sublist.refl _ | exact List.sublist_cons_self _ _ | exact List.sublist_append_right _ _ | simp) ?_
    refine TrP.softG rfl rfl (V.bytesStr Try.runUnderlying22 Try.runUnderlying9 Try.runUnderlying5 rfl (RdP.all (by repeat (first | exact List.Mem.head _ | apply List.Mem.tail))) rfl) rfl ?_
    refine TrP.hardG rfl rfl (W.call (val := fun x : Nat => .slice (some ⟨x, 0, none⟩) (xorL (ys.take j) (xs.take k)).length (xorL (ys.take j) (xs.take k)).length) (N := fun x => [⟨x, 5, (xorL (ys.take j) (xs.take k)).map U8⟩]) (Px := fun _ => True)  (args2 rfl rfl) Try.call27 rfl (fun w1 hw => (xor_any q p j c2 k c (ys.take j) (xs.take k) w1 ((hd.old).now hw) ((hb.old).now hw) hd.length hb.length (by omega) (by omega)).mono fun _ _ ⟨x, h⟩ => ⟨x, h.1, h.2, trivial⟩) fun g51 _ => ?_)
    refine Tr.pOn (by first | exact List.Sublist.refl _ | exact List.sublist_cons_self _ _ | exact List.sublist_append_right _ _ | simp) ?_
    refine TrP.softG rfl rfl (V.bytesStr Try.runUnderlying22 Try.runUnderlying9 Try.runUnderlying5 rfl (RdP.all (by repeat (first | exact List.Mem.head _ | apply List.Mem.tail))) rfl) rfl ?_
    refine TrP.pureG rfl rfl (fun _ => V.eqlS (b := true) rfl rfl (by rw [hcc]; exact bstr_same _)) rfl ?_
    refine TrP.pure rfl (fun _ => V.pick rfl rfl) rfl ?_
    refine TrP.pure rfl (fun _ => V.assign rfl) rfl ?_
    refine TrP.done ?_
    refine Tr.thenN ?_
    refine Tr.ret ?_
    refine Tr.out1 rfl (Res.tmp rfl) fun w hw => ?_
    exact ⟨rfl, hw.sub (List.nil_sublist _)⟩
  · refine W.makeSlice (l := k) (c := k) elem22 rfl rfl rfl rfl (by omega) (by omega) (by omega) rfl fun g40 => ?_
    refine Tr.pOn (by first | exact List.Sublist.refl _ | exact List.sublist_cons_self _ _ | exact List.sublist_append_right _ _ | simp) ?_
    refine TrP.softG rfl rfl (V.bytesStr Try.runUnderlying22 Try.runUnderlying9 Try.runUnderlying5 rfl (xs := List.replicate k 0#8) (by rw [List.map_replicate]; exact RdP.all (by repeat (first | exact List.Mem.head _ | apply List.Mem.tail))) (by simp)) rfl ?_
    refine TrP.hardG rfl rfl (W.call (val := fun x : Nat => .slice (some ⟨x, 0, none⟩) (xorL (xs.take k) (xs.take k)).length (xorL (xs.take k) (xs.take k)).length) (N := fun x => [⟨x, 5, (xorL (xs.take k) (xs.take k)).map U8⟩]) (Px := fun _ => True)  (args2 rfl rfl) Try.call27 rfl (fun w1 hw => (xor_any p p k c k c (xs.take k) (xs.take k) w1 ((hb.old).now hw) ((hb.old).now hw) hb.length hb.length (by omega) (by omega)).mono fun _ _ ⟨x, h⟩ => ⟨x, h.1, h.2, trivial⟩) fun g36 _ => ?_)
    refine Tr.pOn (by first | exact List.Sublist.refl _ | exact List.sublist_cons_self _ _ | exact List.sublist_append_right _ _ | simp) ?_
    refine TrP.softG rfl rfl (V.bytesStr Try.runUnderlying22 Try.runUnderlying9 Try.runUnderlying5 rfl (RdP.all (by repeat (first | exact List.Mem.head _ | apply List.Mem.tail))) rfl) rfl ?_
    refine TrP.pureG rfl rfl (fun _ => V.eqlS (b := true) rfl rfl (by rw [hzz]; exact bstr_same _)) rfl ?_
    refine TrP.pure rfl (fun _ => V.pick rfl rfl) rfl ?_
    refine TrP.pure rfl (fun _ => V.move rfl) rfl ?_
    refine TrP.pureG rfl rfl (fun _ => V.move rfl) rfl ?_
    refine TrP.pureG rfl rfl (fun _ => V.move rfl) rfl ?_
    refine TrP.pureG rfl rfl (fun _ => V.move rfl) rfl ?_
    refine TrP.pureG rfl rfl (fun _ => V.move rfl) rfl ?_
    refine TrP.hardG rfl rfl (W.call (val := fun x : Nat => .slice (some ⟨x, 0, none⟩) (xorL (xs.take k) (ys.take j)).length (xorL (xs.take k) (ys.take j)).length) (N := fun x => [⟨x, 5, (xorL (xs.take k) (ys.take j)).map U8⟩]) (Px := fun _ => True)  (args2 rfl rfl) Try.call27 rfl (fun w1 hw => (xor_any p q k c j c2 (xs.take k) (ys.take j) w1 ((hb.old).now hw) ((hd.old).now hw) hb.length hd.length (by omega) (by omega)).mono fun _ _ ⟨x, h⟩ => ⟨x, h.1, h.2, trivial⟩) fun g47 _ => ?_)
    refine Tr.pOn (by first | exact List.Sublist.refl _ | exact List.sublist_cons_self _ _ | exact List.sublist_append_right _ _ | simp) ?_
    refine TrP.softG rfl rfl (V.bytesStr Try.runUnderlying22 Try.runUnderlying9 Try.runUnderlying5 rfl (RdP.all (by repeat (first | exact List.Mem.head _ | apply List.Mem.tail))) rfl) rfl ?_
    refine TrP.hardG rfl rfl (W.call (val := fun x : Nat => .slice (some ⟨x, 0, none⟩) (xorL (ys.take j) (xs.take k)).length (xorL (ys.take j) (xs.take k)).length) (N := fun x => [⟨x, 5, (xorL (ys.take j) (xs.take k)).map U8⟩]) (Px := fun _ => True)  (args2 rfl rfl) Try.call27 rfl (fun w1 hw => (xor_any q p j c2 k c (ys.take j) (xs.take k) w1 ((hd.old).now hw) ((hb.old).now hw) hd.length hb.length (by omega) (by omega)).mono fun _ _ ⟨x, h⟩ => ⟨x, h.1, h.2, trivial⟩) fun g51 _ => ?_)
    refine Tr.pOn (by first | exact List.Sublist.refl _ | exact List.sublist_cons_self _ _ | exact List.sublist_append_right _ _ | simp) ?_
    refine TrP.softG rfl rfl (V.bytesStr Try.runUnderlying22 Try.runUnderlying9 Try.runUnderlying5 rfl (RdP.all (by repeat (first | exact List.Mem.head _ | apply List.Mem.tail))) rfl) rfl ?_
    refine TrP.pureG rfl rfl (fun _ => V.eqlS (b := true) rfl rfl (by rw [hcc]; exact bstr_same _)) rfl ?_
    refine TrP.pure rfl (fun _ => V.pick rfl rfl) rfl ?_
    refine TrP.pure rfl (fun _ => V.assign rfl) rfl ?_
    refine TrP.done ?_
    refine Tr.thenN ?_
    refine Tr.ret ?_
    refine Tr.out1 rfl (Res.tmp rfl) fun w hw => ?_
    exact ⟨rfl, hw.sub (List.nil_sublist _)⟩

theorem wordsDiffer_walk (a0 : Option Addr) (len0 cap0 : Nat) (z0 : List Int) (a1 : Option Addr) (len1 cap1 : Nat) (z1 : List Int) (w : World) (w0 : IsRow .u8 w a0 len0 cap0 z0) (w1 : IsRow .u8 w a1 len1 cap1 z1) :
    Calls Try.prog 10 #[.slice a0 len0 cap0, .slice a1 len1 cap1] w fun r w' => r = .returned (.bool true) ∧ Hp w [] [] w' := by
  obtain ⟨xs, hx⟩ := w0.bytes
  obtain ⟨ys, hy⟩ := w1.bytes
  exact wordsDiffer_run a0 a1 len0 cap0 len1 cap1 xs ys w hx hy
namespace wordsDiffer
open Go.ChangeShapes Go.WideShapes Go.ChangeAt Go.RowKit Go.Sym
theorem own : ownKnob Try.prog.godebug = none := by kernel_rfl
theorem laidOut : laidOutB Try.prog = true := by kernel_rfl
set_option maxRecDepth 100000 in
theorem lifted (os : Os) (started : os.Started) (H : Type) (enc : TypeId × Value → H) :
    ReturnsInHanded {} Try.checked os 10 .any (Rows.wordsDifferSpec.pre6 enc Try.prog Try.f10 Rows.wordsDifferRow.domain false) (Rows.wordsDifferSpec.post enc Try.prog Try.f10 false true false false) := by
  refine returnsInHanded_of_change (C := Try.checked) own started (by kernel_rfl) Try.func10
    (ChangeSpec.witness6 (enc := enc) (C := Try.checked) false ⟨#[], #[.slice none 0 0, .slice none 0 0], []⟩ 8 (by kernel_rfl) (by kernel_rfl) (by kernel_rfl) (by kernel_rfl)) ?_
  intro W base args ds gs before hval0 hW hcnd _
  have hval : ∀ (j : Nat) t v, Try.f10.params[j]? = some t → args[j]? = some v → Value.okWide Try.prog W .any base t v := hval0
  have hW' := hW
  obtain ⟨p, q, hA0, hV, rfl, hfz, hnd⟩ := hW
  have hA : DataW.TrodAll enc Try.prog W 0 (fun _ => true) true Try.f10.params.toList args.toList ds p := hA0
  rw [Try.params10] at hA hval
  obtain ⟨v0, vs0, d0, ds0, p0, q0, hargs, rfl, rfl, h0, r0⟩ := trodAll_cons hA
  obtain ⟨v1, vs1, d1, ds1, p1, q1, rfl, rfl, rfl, h1, r1⟩ := trodAll_cons r0
  obtain ⟨rfl, rfl, rfl⟩ := trodAll_nil r1
  obtain rfl : args = #[v0, v1] := by cases args; simp_all
  obtain ⟨rfl, rfl⟩ := trodVars_none hV
  obtain ⟨a0, len0, cap0, rfl⟩ := okWide_slice Try.underlying22 (hval 0 22 v0 rfl rfl)
  have k0 := h0
  have lt0 : ∀ x ∈ p0, x.block < W.heap.size := by obtain ⟨m, hm⟩ := k0; exact DataW.trod_lt m _ _ _ hm
  obtain ⟨z0, w0⟩ : ∃ zs, IsRow .u8 W a0 len0 cap0 zs := by
    obtain ⟨fuel, hf⟩ := h0
    rcases open_ints Try.underlying22 Try.underlying5 (by kernel_rfl) hf with ⟨hcs, _⟩ | ⟨x, l, c, zs, hcs, _, hl, hm, hz, _, hcell, hwz⟩
    · simp [Value.cells] at hcs
      obtain ⟨rfl, rfl, rfl⟩ := hcs
      exact ⟨[], .inl ⟨rfl, rfl, rfl, rfl⟩⟩
    · simp [Value.cells] at hcs
      obtain ⟨rfl, rfl, rfl⟩ := hcs
      exact ⟨zs, .inr ⟨_, rfl, hl, hm, by simpa using hz, hcell, hwz⟩⟩
  obtain ⟨a1, len1, cap1, rfl⟩ := okWide_slice Try.underlying22 (hval 1 22 v1 rfl rfl)
  have k1 := h1
  have lt1 : ∀ x ∈ p1, x.block < W.heap.size := by obtain ⟨m, hm⟩ := k1; exact DataW.trod_lt m _ _ _ hm
  obtain ⟨z1, w1⟩ : ∃ zs, IsRow .u8 W a1 len1 cap1 zs := by
    obtain ⟨fuel, hf⟩ := h1
    rcases open_ints Try.underlying22 Try.underlying5 (by kernel_rfl) hf with ⟨hcs, _⟩ | ⟨x, l, c, zs, hcs, _, hl, hm, hz, _, hcell, hwz⟩
    · simp [Value.cells] at hcs
      obtain ⟨rfl, rfl, rfl⟩ := hcs
      exact ⟨[], .inl ⟨rfl, rfl, rfl, rfl⟩⟩
    · simp [Value.cells] at hcs
      obtain ⟨rfl, rfl, rfl⟩ := hcs
      exact ⟨zs, .inr ⟨_, rfl, hl, hm, by simpa using hz, hcell, hwz⟩⟩
  clear hA0 hval0
  refine (wordsDiffer_walk a0 len0 cap0 z0 a1 len1 cap1 z1 W w0 w1).mono fun e W' ⟨he, hp⟩ => ?_
  have bel : Below W.heap.size W W' := hp.below
  subst he
  exact ⟨_, rfl, _, _, _, [], _, [], hW', trodAll_mk1 (shut_bool Try.underlying4 _), (trodAll_cons_mk (Below.trod laidOut (by kernel_rfl) (of_decide_eq_true (by kernel_rfl)) k0 bel lt0) (trodAll_cons_mk (Below.trod laidOut (by kernel_rfl) (of_decide_eq_true (by kernel_rfl)) k1 bel lt1) trodAll_mk0)), rfl, bel.frame _, fun h => by cases h⟩
theorem over : Rows.wordsDifferRow.holds Try.pinned (OpenSpec.ofChange Rows.wordsDifferSpec) :=
  OpenClaim.holds_of_wide 10 Try.f10 rfl rfl rfl rfl rfl rfl rfl ⟨rfl, rfl, rfl, rfl, rfl⟩ rfl rfl rfl rfl rfl (by kernel_rfl) Try.func10 (by kernel_rfl)
    (of_decide_eq_true (by kernel_rfl)) (by unfold Func.isWrapper; first | (rw [if_pos (by decide +kernel)]; kernel_rfl) | (rw [if_neg (by decide +kernel)]; exact ⟨rfl, rfl⟩))
    (fun os started H enc _ => lifted os started H enc)
end wordsDiffer
/-- The statement. -/
theorem wordsDifferProved : Rows.WordsDifferSaid := wordsDiffer.over
end Go.Proofs.Ytnhfmmohdiccgaa
