/-
  hatchwaylaw01.WordsBits returns true, whatever its arguments. (Printed by law1.py over the walk printer of this session.)
-/
import Derived.Test.YtnhfmmohdiccgaaRows
import Derived.Test.YtnhfmmohdiccgaaFrame
import Derived.Test.YtnhfmmohdiccgaaShown1
import Derived.Test.YtnhfmmohdiccgaaPlainLaw1
namespace Go.Proofs.Ytnhfmmohdiccgaa
open Go.Sym Plain
set_option linter.unusedVariables false

theorem wordsBits_run (X : BitVec 32) (i : Int) (p q : Option Addr) (m c m2 c2 : Nat) (xs ys : List (BitVec 8)) (w : World) (hx : Bytes w p m c xs) (hy : Bytes w q m2 c2 ys) :
    Calls Try.prog 9 [U32 X, .int .i64 i, .slice p m c, .slice q m2 c2].toArray w fun r w' => r = .returned (.bool true) ∧ Hp w [] [] w' := by
  obtain ⟨k, hkk⟩ : ∃ k, k = Nat.min m 100 := ⟨_, rfl⟩
  have hk1 : k ≤ m := by rw [hkk]; exact Nat.min_le_left _ _
  have hk2 : k ≤ 100 := by rw [hkk]; exact Nat.min_le_right _ _
  obtain ⟨j, hkj⟩ : ∃ k, k = Nat.min m2 100 := ⟨_, rfl⟩
  have hj1 : j ≤ m2 := by rw [hkj]; exact Nat.min_le_left _ _
  have hj2 : j ≤ 100 := by rw [hkj]; exact Nat.min_le_right _ _
  have hb := hx.part hk1
  have hd := hy.part hj1
  have hle := hx.le
  have hle2 := hy.le
  have hmx := hx.max
  have hmy := hy.max
  refine Tr.enter Try.func9 rfl Try.ntmps9 rfl (Hp.refl w) ?_
  refine Tr.seq ?_
  refine Tr.region ?_
  refine Tr.val (V.assign rfl) rfl ?_
  refine Tr.lNil ?_
  refine Tr.thenN ?_
  refine Tr.seq ?_
  refine Tr.region ?_
  refine Tr.op (W.call1 (args0) Try.call18 rfl (fun w _ => shown_true w) ?_)
  refine Tr.val (V.assign rfl) rfl ?_
  refine Tr.lNil ?_
  refine Tr.thenN ?_
  refine Tr.seq ?_
  refine Tr.region ?_
  refine Tr.val (V.move rfl) rfl ?_
  refine Tr.val (V.move rfl) rfl ?_
  refine Tr.val (V.len Try.runUnderlying22 rfl) rfl ?_
  refine Tr.val ((by rw [hkk]; exact V.minN (b := 100) rfl rfl : VOp Try.prog _ _ _ _ _ _ _ (.int .i64 (k : Int)))) rfl ?_
  refine Tr.val (V.cut Try.runUnderlying22 Try.sizeOf5 rfl rfl (by omega)) rfl ?_
  refine Tr.val (V.assign rfl) rfl ?_
  refine Tr.lNil ?_
  refine Tr.thenN ?_
  refine Tr.seq ?_
  refine Tr.region ?_
  refine Tr.val (V.move rfl) rfl ?_
  refine Tr.val (V.move rfl) rfl ?_
  refine Tr.val (V.len Try.runUnderlying22 rfl) rfl ?_
  refine Tr.val ((by rw [hkj]; exact V.minN (b := 100) rfl rfl : VOp Try.prog _ _ _ _ _ _ _ (.int .i64 (j : Int)))) rfl ?_
  refine Tr.val (V.cut Try.runUnderlying22 Try.sizeOf5 rfl rfl (by omega)) rfl ?_
  refine Tr.val (V.assign rfl) rfl ?_
  refine Tr.lNil ?_
  refine Tr.thenN ?_
  refine Tr.seq ?_
  refine Tr.regionD [0, 1, 3, 3, 15, 3, 3, 127, 255, 511, 1023, 2047, 2047, 8191, 16383, 2047, 2047, 114687, 245759, 524287, 1048575, 2097151, 4194303, 4194303, 16777215, 4194303, 37748735, 4194303, 138412031, 507510783, 1073741823, 2147483647, 4294967295, 8589934591, 8589934591, 34359738367, 68719476735, 137438953471] [] (.pure 0 (.pure 1 (.pure 2 (.pure 3 (.soft 4 (.pure 5 (.pure 6 (.soft 7 (.pure 8 (.pure 9 (.pure 10 (.pure 11 (.pure 12 (.pure 15 (.pure 16 (.hard 13 (.soft 14 (.hard 17 (.soft 18 (.pure 19 (.pure 20 (.pure 21 (.pure 22 (.pure 23 (.soft 24 (.pure 25 (.soft 26 (.pure 27 (.soft 28 (.pure 29 (.pure 30 (.pure 31 (.pure 32 (.pure 33 (.pure 34 (.soft 35 (.pure 36 (.pure 37 .done)))))))))))))))))))))))))))))))))))))) mixed (by kernel_rfl) ?_
  refine TrP.pure rfl (fun _ => V.move rfl) rfl ?_
  refine TrP.pure rfl (fun _ => V.move rfl) rfl ?_
  refine TrP.pureG rfl rfl (fun _ => V.move rfl) rfl ?_
  refine TrP.pureG rfl rfl (fun _ => V.move rfl) rfl ?_
  refine TrP.callG rfl rfl (args2 rfl rfl) Try.call25 rfl (fun w _ => rot_any _ _ w) ?_
  refine TrP.pureG rfl rfl (fun _ => V.move rfl) rfl ?_
  refine TrP.pureG rfl rfl (fun _ => V.move rfl) rfl ?_
  refine TrP.callG rfl rfl (args2 rfl rfl) Try.call26 rfl (fun w _ => rrot_any _ _ w) ?_
  refine TrP.pureG rfl rfl (fun _ => V.eql32 (b := true) rfl rfl (by simp)) rfl ?_
  refine TrP.pure rfl (fun _ => V.pick rfl rfl) rfl ?_
  refine TrP.pure rfl (fun _ => V.move rfl) rfl ?_
  refine TrP.pureG rfl rfl (fun _ => V.move rfl) rfl ?_
  refine TrP.pureG rfl rfl (fun _ => V.move rfl) rfl ?_
  refine TrP.pureG rfl rfl (fun _ => V.move rfl) rfl ?_
  refine TrP.pureG rfl rfl (fun _ => V.move rfl) rfl ?_
  refine TrP.hardG rfl rfl (W.call (val := fun x : Nat => .slice (some ⟨x, 0, none⟩) (xorL (xs.take k) (ys.take j)).length (xorL (xs.take k) (ys.take j)).length) (N := fun x => [⟨x, 5, (xorL (xs.take k) (ys.take j)).map U8⟩]) (Px := fun _ => True)  (args2 rfl rfl) Try.call27 rfl (fun w1 hw => (xor_any p q k c j c2 (xs.take k) (ys.take j) w1 ((hb.old).now hw) ((hd.old).now hw) hb.length hd.length (by omega) (by omega)).mono fun _ _ ⟨x, h⟩ => ⟨x, h.1, h.2, trivial⟩) fun gx _ => ?_)
  refine Tr.pOn (by first | exact List.Sublist.refl _ | exact List.sublist_cons_self _ _ | exact List.sublist_append_right _ _ | simp) ?_
  refine TrP.softG rfl rfl (V.bytesStr Try.runUnderlying22 Try.runUnderlying9 Try.runUnderlying5 rfl (RdP.all (by repeat (first | exact List.Mem.head _ | apply List.Mem.tail))) rfl) rfl ?_
  refine TrP.hardG rfl rfl (W.call (val := fun x : Nat × Nat × List Value => .slice (some ⟨x.1, 0, none⟩) (xorL (xs.take k) (ys.take j)).length x.2.1) (N := fun x => [⟨x.1, 5, (xorL (xs.take k) (ys.take j)).map U8 ++ x.2.2⟩]) (Px := fun _ => True)  (args2 rfl rfl) Try.call28 rfl (fun w1 hw => (rxor_any p q k c j c2 (xs.take k) (ys.take j) w1 ((hb.old).now hw) ((hd.old).now hw) hb.length hd.length (by omega) (by omega)).mono fun _ _ ⟨x, h⟩ => ⟨x, h.1, h.2.1, trivial⟩) fun y _ => ?_)
  refine Tr.pOn (by first | exact List.Sublist.refl _ | exact List.sublist_cons_self _ _ | exact List.sublist_append_right _ _ | simp) ?_
  refine TrP.softG rfl rfl (V.bytesStr Try.runUnderlying22 Try.runUnderlying9 Try.runUnderlying5 rfl (RdP.headL (by repeat (first | exact List.Mem.head _ | apply List.Mem.tail))) rfl) rfl ?_
  refine TrP.pureG rfl rfl (fun _ => V.eqlS rfl rfl (bstr_same _)) rfl ?_
  refine TrP.pure rfl (fun _ => V.pick rfl rfl) rfl ?_
  refine TrP.pure rfl (fun _ => V.move rfl) rfl ?_
  refine TrP.pureG rfl rfl (fun _ => V.move rfl) rfl ?_
  refine TrP.pureG rfl rfl (fun _ => V.move rfl) rfl ?_
  refine TrP.callG rfl rfl (args2 rfl rfl) Try.call29 rfl (fun w1 hw => same_any p q k c j c2 (xs.take k) (ys.take j) w1 ((hb.old).now hw) ((hd.old).now hw) hb.length hd.length (by omega) (by omega)) ?_
  refine TrP.pureG rfl rfl (fun _ => V.move rfl) rfl ?_
  refine TrP.softG rfl rfl (V.bytesStr Try.runUnderlying22 Try.runUnderlying9 Try.runUnderlying5 rfl hb.old hb.length) rfl ?_
  refine TrP.pureG rfl rfl (fun _ => V.move rfl) rfl ?_
  refine TrP.softG rfl rfl (V.bytesStr Try.runUnderlying22 Try.runUnderlying9 Try.runUnderlying5 rfl hd.old hd.length) rfl ?_
  refine TrP.pureG rfl rfl (fun _ => V.eqlS rfl rfl (bstr_eq _ _)) rfl ?_
  refine TrP.pureG rfl rfl (fun _ => V.eqlBb (b := true) Try.runUnderlying4 rfl rfl (by simp)) rfl ?_
  refine TrP.pure rfl (fun _ => V.pick rfl rfl) rfl ?_
  refine TrP.pure rfl (fun _ => V.move rfl) rfl ?_
  refine TrP.pureG rfl rfl (fun _ => V.move rfl) rfl ?_
  refine TrP.pureG rfl rfl (fun _ => V.move rfl) rfl ?_
  refine TrP.callG rfl rfl (args2 rfl rfl) Try.call29 rfl (fun w1 hw => by simpa using same_any p p k c k c (xs.take k) (xs.take k) w1 ((hb.old).now hw) ((hb.old).now hw) hb.length hb.length (by omega) (by omega)) ?_
  refine TrP.pure rfl (fun _ => V.pick rfl rfl) rfl ?_
  refine TrP.pure rfl (fun _ => V.assign rfl) rfl ?_
  refine TrP.done ?_
  refine Tr.thenN ?_
  refine Tr.ret ?_
  refine Tr.out1 rfl (Res.tmp rfl) fun w hw => ?_
  exact ⟨rfl, hw.sub (List.nil_sublist _)⟩

theorem wordsBits_walk (a0 a1 : Int) (a2 : Option Addr) (len2 cap2 : Nat) (z2 : List Int) (a3 : Option Addr) (len3 cap3 : Nat) (z3 : List Int) (w : World) (w0 : (Lit.int .u32 a0).wf = true) (w1 : (Lit.int .i64 a1).wf = true) (w2 : IsRow .u8 w a2 len2 cap2 z2) (w3 : IsRow .u8 w a3 len3 cap3 z3) :
    Calls Try.prog 9 #[.int .u32 a0, .int .i64 a1, .slice a2 len2 cap2, .slice a3 len3 cap3] w fun r w' => r = .returned (.bool true) ∧ Hp w [] [] w' := by
  obtain ⟨X, rfl⟩ := wf32 w0
  obtain ⟨xs, hx⟩ := w2.bytes
  obtain ⟨ys, hy⟩ := w3.bytes
  exact wordsBits_run X a1 a2 a3 len2 cap2 len3 cap3 xs ys w hx hy
namespace wordsBits
open Go.ChangeShapes Go.WideShapes Go.ChangeAt Go.RowKit Go.Sym
theorem own : ownKnob Try.prog.godebug = none := by kernel_rfl
theorem laidOut : laidOutB Try.prog = true := by kernel_rfl
set_option maxRecDepth 100000 in
theorem lifted (os : Os) (started : os.Started) (H : Type) (enc : TypeId × Value → H) :
    ReturnsInHanded {} Try.checked os 9 .any (Rows.wordsBitsSpec.pre6 enc Try.prog Try.f9 Rows.wordsBitsRow.domain false) (Rows.wordsBitsSpec.post enc Try.prog Try.f9 false true false false) := by
  refine returnsInHanded_of_change (C := Try.checked) own started (by kernel_rfl) Try.func9
    (ChangeSpec.witness6 (enc := enc) (C := Try.checked) false ⟨#[], #[.int .u32 0, .int .i64 0, .slice none 0 0, .slice none 0 0], []⟩ 8 (by kernel_rfl) (by kernel_rfl) (by kernel_rfl) (by kernel_rfl)) ?_
  intro W base args ds gs before hval0 hW hcnd _
  have hval : ∀ (j : Nat) t v, Try.f9.params[j]? = some t → args[j]? = some v → Value.okWide Try.prog W .any base t v := hval0
  have hW' := hW
  obtain ⟨p, q, hA0, hV, rfl, hfz, hnd⟩ := hW
  have hA : DataW.TrodAll enc Try.prog W 0 (fun _ => true) true Try.f9.params.toList args.toList ds p := hA0
  rw [Try.params9] at hA hval
  obtain ⟨v0, vs0, d0, ds0, p0, q0, hargs, rfl, rfl, h0, r0⟩ := trodAll_cons hA
  obtain ⟨v1, vs1, d1, ds1, p1, q1, rfl, rfl, rfl, h1, r1⟩ := trodAll_cons r0
  obtain ⟨v2, vs2, d2, ds2, p2, q2, rfl, rfl, rfl, h2, r2⟩ := trodAll_cons r1
  obtain ⟨v3, vs3, d3, ds3, p3, q3, rfl, rfl, rfl, h3, r3⟩ := trodAll_cons r2
  obtain ⟨rfl, rfl, rfl⟩ := trodAll_nil r3
  obtain rfl : args = #[v0, v1, v2, v3] := by cases args; simp_all
  obtain ⟨rfl, rfl⟩ := trodVars_none hV
  obtain ⟨a0, rfl, rfl, rfl, w0⟩ := open_int Try.underlying29 (hval 0 29 v0 rfl rfl) h0
  obtain ⟨a1, rfl, rfl, rfl, w1⟩ := open_int Try.underlying3 (hval 1 3 v1 rfl rfl) h1
  obtain ⟨a2, len2, cap2, rfl⟩ := okWide_slice Try.underlying22 (hval 2 22 v2 rfl rfl)
  have k2 := h2
  have lt2 : ∀ x ∈ p2, x.block < W.heap.size := by obtain ⟨m, hm⟩ := k2; exact DataW.trod_lt m _ _ _ hm
  obtain ⟨z2, w2⟩ : ∃ zs, IsRow .u8 W a2 len2 cap2 zs := by
    obtain ⟨fuel, hf⟩ := h2
    rcases open_ints Try.underlying22 Try.underlying5 (by kernel_rfl) hf with ⟨hcs, _⟩ | ⟨x, l, c, zs, hcs, _, hl, hm, hz, _, hcell, hwz⟩
    · simp [Value.cells] at hcs
      obtain ⟨rfl, rfl, rfl⟩ := hcs
      exact ⟨[], .inl ⟨rfl, rfl, rfl, rfl⟩⟩
    · simp [Value.cells] at hcs
      obtain ⟨rfl, rfl, rfl⟩ := hcs
      exact ⟨zs, .inr ⟨_, rfl, hl, hm, by simpa using hz, hcell, hwz⟩⟩
  obtain ⟨a3, len3, cap3, rfl⟩ := okWide_slice Try.underlying22 (hval 3 22 v3 rfl rfl)
  have k3 := h3
  have lt3 : ∀ x ∈ p3, x.block < W.heap.size := by obtain ⟨m, hm⟩ := k3; exact DataW.trod_lt m _ _ _ hm
  obtain ⟨z3, w3⟩ : ∃ zs, IsRow .u8 W a3 len3 cap3 zs := by
    obtain ⟨fuel, hf⟩ := h3
    rcases open_ints Try.underlying22 Try.underlying5 (by kernel_rfl) hf with ⟨hcs, _⟩ | ⟨x, l, c, zs, hcs, _, hl, hm, hz, _, hcell, hwz⟩
    · simp [Value.cells] at hcs
      obtain ⟨rfl, rfl, rfl⟩ := hcs
      exact ⟨[], .inl ⟨rfl, rfl, rfl, rfl⟩⟩
    · simp [Value.cells] at hcs
      obtain ⟨rfl, rfl, rfl⟩ := hcs
      exact ⟨zs, .inr ⟨_, rfl, hl, hm, by simpa using hz, hcell, hwz⟩⟩
  clear hA0 hval0
  refine (wordsBits_walk a0 a1 a2 len2 cap2 z2 a3 len3 cap3 z3 W w0 w1 w2 w3).mono fun e W' ⟨he, hp⟩ => ?_
  have bel : Below W.heap.size W W' := hp.below
  subst he
  exact ⟨_, rfl, _, _, _, [], _, [], hW', trodAll_mk1 (shut_bool Try.underlying4 _), (trodAll_cons_mk (shut_int Try.underlying29 w0) (trodAll_cons_mk (shut_int Try.underlying3 w1) (trodAll_cons_mk (Below.trod laidOut (by kernel_rfl) (of_decide_eq_true (by kernel_rfl)) k2 bel lt2) (trodAll_cons_mk (Below.trod laidOut (by kernel_rfl) (of_decide_eq_true (by kernel_rfl)) k3 bel lt3) trodAll_mk0)))), rfl, bel.frame _, fun h => by cases h⟩
theorem over : Rows.wordsBitsRow.holds Try.pinned (OpenSpec.ofChange Rows.wordsBitsSpec) :=
  OpenClaim.holds_of_wide 9 Try.f9 rfl rfl rfl rfl rfl rfl rfl ⟨rfl, rfl, rfl, rfl, rfl⟩ rfl rfl rfl rfl rfl (by kernel_rfl) Try.func9 (by kernel_rfl)
    (of_decide_eq_true (by kernel_rfl)) (by unfold Func.isWrapper; first | (rw [if_pos (by decide +kernel)]; kernel_rfl) | (rw [if_neg (by decide +kernel)]; exact ⟨rfl, rfl⟩))
    (fun os started H enc _ => lifted os started H enc)
end wordsBits
/-- The statement. -/
theorem wordsBitsProved : Rows.WordsBitsSaid := wordsBits.over
end Go.Proofs.Ytnhfmmohdiccgaa
