/-
  hatchwaylaw03.PolyTells returns true, whatever its arguments. (Printed by a program of this session over its walk printer.)
-/
import Derived.Test.YtnhfmmohdiccgaaRows
import Derived.Test.YtnhfmmohdiccgaaLaw3
import Derived.Test.YtnhfmmohdiccgaaRef3D
namespace Go.Proofs.Ytnhfmmohdiccgaa
open Go.Sym Plain
set_option linter.unusedVariables false

theorem polyTells_run (p : Option Addr) (m c : Nat) (key xs : List (BitVec 8)) (w : World) (hk : key.length = 32) (hx : Bytes w p m c xs) :
    Calls Try.prog 12 [.agg (key.map U8).toArray, .slice p m c].toArray w fun r w' => r = .returned (.bool true) ∧ Hp w [] [] w' := by
  obtain ⟨k, hkk⟩ : ∃ k, k = Nat.min m 300 := ⟨_, rfl⟩
  have hk1 : k ≤ m := by rw [hkk]; exact Nat.min_le_left _ _
  have hk2 : k ≤ 300 := by rw [hkk]; exact Nat.min_le_right _ _
  have hb := hx.part hk1
  have hle := hx.le
  have hmx := hx.max
  refine Tr.enter Try.func12 rfl Try.ntmps12 rfl (Hp.refl w) ?_
  refine Tr.seq ?_
  refine Tr.region ?_
  refine Tr.op (W.box (cs := key.map U8) rfl rfl rfl fun g2 => ?_)
  refine Tr.val (V.assign rfl) rfl ?_
  refine Tr.lNil ?_
  refine Tr.thenN ?_
  refine Tr.seq ?_
  refine Tr.region ?_
  refine Tr.op (W.call1 (args0) Try.call35 rfl (fun w1 _ => shown3_true w1) ?_)
  refine Tr.val (V.assign rfl) rfl ?_
  refine Tr.lNil ?_
  refine Tr.thenN ?_
  refine Tr.seq ?_
  refine Tr.region ?_
  refine Tr.val (V.move rfl) rfl ?_
  refine Tr.val (V.move rfl) rfl ?_
  refine Tr.val (V.len Try.runUnderlying22 rfl) rfl ?_
  refine Tr.val ((by rw [hkk]; exact V.minN (b := 300) rfl rfl : VOp Try.prog _ _ _ _ _ _ _ (.int .i64 (k : Int)))) rfl ?_
  refine Tr.val (V.cut Try.runUnderlying22 Try.sizeOf5 rfl rfl (by omega)) rfl ?_
  refine Tr.val (V.assign rfl) rfl ?_
  refine Tr.lNil ?_
  refine Tr.thenN ?_
  refine Tr.seq ?_
  refine Tr.region ?_
  refine Tr.val (V.move rfl) rfl ?_
  refine Tr.val (V.bytesStr Try.runUnderlying22 Try.runUnderlying9 Try.runUnderlying5 rfl hb.old hb.length) rfl ?_
  refine Tr.val (V.assign rfl) rfl ?_
  refine Tr.lNil ?_
  refine Tr.thenN ?_
  refine Tr.seq ?_
  refine Tr.region ?_
  refine Tr.val (V.loadN (cs := key.map U8) Try.isAgg52 (by rw [List.length_map, hk]; exact Try.sizeOf52) rfl (V.cellsB (by repeat (first | exact List.Mem.head _ | apply List.Mem.tail)))) rfl ?_
  refine Tr.val (V.move rfl) rfl ?_
  refine Tr.op (W.call1 (args2 rfl rfl) Try.call36 rfl (fun w1 hw => sum_any p k c key (xs.take k) w1 hk (hb.now hw)) ?_)
  refine Tr.op (W.alloc (cs := (List.replicate 16 0#8).map U8) Try.zeroValue53 rfl rfl fun g7 => ?_)
  refine Tr.op (W.storeAll (vs := (polyTag key (xs.take k)).map U8) (cs := (List.replicate 16 0#8).map U8) Try.sizeOf53 rfl rfl (by rw [List.length_map, polyTag_len]) rfl (one8 _) (by repeat (first | exact Upd.head | apply Upd.tail)) ?_)
  refine Tr.lNil ?_
  refine Tr.thenN ?_
  refine Tr.seq ?_
  refine Tr.regionD [0, 1, 3, 7, 3, 3, 51, 115, 255, 511, 1023, 2047, 4095, 2047, 16383, 32767, 65535] [] (.pure 0 (.pure 1 (.pure 2 (.soft 3 (.pure 4 (.pure 5 (.hard 6 (.soft 7 (.pure 8 (.pure 9 (.pure 10 (.pure 11 (.soft 12 (.pure 13 (.pure 14 (.pure 15 (.pure 16 .done))))))))))))))))) mixed (by kernel_rfl) ?_
  refine TrP.pure rfl (fun _ => V.move rfl) rfl ?_
  refine TrP.pure rfl (fun _ => V.move rfl) rfl ?_
  refine TrP.pureG rfl rfl (fun _ => V.sliceW Try.runUnderlying53 Try.sizeOf5 rfl) rfl ?_
  refine TrP.softG rfl rfl (V.bytesStr Try.runUnderlying22 Try.runUnderlying9 Try.runUnderlying5 rfl (xs := (polyTag key (xs.take k))) (RdP.all (by repeat (first | exact List.Mem.head _ | apply List.Mem.tail))) (polyTag_len _ _)) rfl ?_
  refine TrP.pureG rfl rfl (fun _ => V.sliceW Try.runUnderlying52 Try.sizeOf5 rfl) rfl ?_
  refine TrP.pureG rfl rfl (fun _ => V.move rfl) rfl ?_
  refine TrP.hardG rfl rfl (W.call (val := fun g : Nat => .slice (some ⟨g, 0, none⟩) 16 16) (N := fun g => [⟨g, 5, (polyTag key (xs.take k)).map U8⟩]) (Px := fun _ => True)  (args2 rfl rfl) Try.call37 rfl (fun w1 hw => rsum_any (some ⟨g2, 0, none⟩) p 32 k c key (xs.take k) w1 ⟨(RdP.all (by repeat (first | exact List.Mem.head _ | apply List.Mem.tail))).now hw, hk, Nat.le_refl _, by omega, fun h => by cases h⟩ (hb.now hw) (by omega)) fun g25 _ => ?_)
  refine Tr.pOn (by first | exact List.Sublist.refl _ | exact List.sublist_cons_self _ _ | exact List.sublist_append_right _ _ | simp) ?_
  refine TrP.softG rfl rfl (V.bytesStr Try.runUnderlying22 Try.runUnderlying9 Try.runUnderlying5 rfl (xs := (polyTag key (xs.take k))) (RdP.all (by repeat (first | exact List.Mem.head _ | apply List.Mem.tail))) (polyTag_len _ _)) rfl ?_
  refine TrP.pureG rfl rfl (fun _ => V.eqlS (b := true) rfl rfl (bstr_same _)) rfl ?_
  refine TrP.pure rfl (fun _ => V.pick rfl rfl) rfl ?_
  refine TrP.pure rfl (fun _ => V.move rfl) rfl ?_
  refine TrP.pureG rfl rfl (fun _ => V.move rfl) rfl ?_
  refine TrP.softG rfl rfl (V.bytesStr Try.runUnderlying22 Try.runUnderlying9 Try.runUnderlying5 rfl hb.old hb.length) rfl ?_
  refine TrP.pureG rfl rfl (fun _ => V.move rfl) rfl ?_
  refine TrP.pureG rfl rfl (fun _ => V.eqlS (b := true) rfl rfl (bstr_same _)) rfl ?_
  refine TrP.pure rfl (fun _ => V.pick rfl rfl) rfl ?_
  refine TrP.pure rfl (fun _ => V.assign rfl) rfl ?_
  refine TrP.done ?_
  refine Tr.thenN ?_
  refine Tr.ret ?_
  refine Tr.out1 rfl (Res.tmp rfl) fun w hw => ?_
  exact ⟨rfl, hw.sub (List.nil_sublist _)⟩

theorem polyTells_walk (x0 : List (BitVec 8)) (a1 : Option Addr) (len1 cap1 : Nat) (z1 : List Int) (w : World) (l0 : x0.length = 32) (w1 : IsRow .u8 w a1 len1 cap1 z1) :
    Calls Try.prog 12 #[.agg (x0.map U8).toArray, .slice a1 len1 cap1] w fun r w' => r = .returned (.bool true) ∧ Hp w [] [] w' := by
  obtain ⟨xs, hx⟩ := w1.bytes
  exact polyTells_run a1 len1 cap1 x0 xs w l0 hx
namespace polyTells
open Go.ChangeShapes Go.WideShapes Go.ChangeAt Go.RowKit Go.Sym
theorem own : ownKnob Try.prog.godebug = none := by kernel_rfl
theorem laidOut : laidOutB Try.prog = true := by kernel_rfl
set_option maxRecDepth 100000 in
theorem lifted (os : Os) (started : os.Started) (H : Type) (enc : TypeId × Value → H) :
    ReturnsInHanded {} Try.checked os 12 .any (Rows.polyTellsSpec.pre6 enc Try.prog Try.f12 Rows.polyTellsRow.domain false) (Rows.polyTellsSpec.post enc Try.prog Try.f12 false true false false) := by
  refine returnsInHanded_of_change (C := Try.checked) own started (by kernel_rfl) Try.func12
    (ChangeSpec.witness6 (enc := enc) (C := Try.checked) false ⟨#[], #[.agg #[.int .u8 0, .int .u8 0, .int .u8 0, .int .u8 0, .int .u8 0, .int .u8 0, .int .u8 0, .int .u8 0, .int .u8 0, .int .u8 0, .int .u8 0, .int .u8 0, .int .u8 0, .int .u8 0, .int .u8 0, .int .u8 0, .int .u8 0, .int .u8 0, .int .u8 0, .int .u8 0, .int .u8 0, .int .u8 0, .int .u8 0, .int .u8 0, .int .u8 0, .int .u8 0, .int .u8 0, .int .u8 0, .int .u8 0, .int .u8 0, .int .u8 0, .int .u8 0], .slice none 0 0], []⟩ 8 (by kernel_rfl) (by kernel_rfl) (by kernel_rfl) (by kernel_rfl)) ?_
  intro W base args ds gs before hval0 hW hcnd _
  have hval : ∀ (j : Nat) t v, Try.f12.params[j]? = some t → args[j]? = some v → Value.okWide Try.prog W .any base t v := hval0
  have hW' := hW
  obtain ⟨p, q, hA0, hV, rfl, hfz, hnd⟩ := hW
  have hA : DataW.TrodAll enc Try.prog W 0 (fun _ => true) true Try.f12.params.toList args.toList ds p := hA0
  rw [Try.params12] at hA hval
  obtain ⟨v0, vs0, d0, ds0, p0, q0, hargs, rfl, rfl, h0, r0⟩ := trodAll_cons hA
  obtain ⟨v1, vs1, d1, ds1, p1, q1, rfl, rfl, rfl, h1, r1⟩ := trodAll_cons r0
  obtain ⟨rfl, rfl, rfl⟩ := trodAll_nil r1
  obtain rfl : args = #[v0, v1] := by cases args; simp_all
  obtain ⟨rfl, rfl⟩ := trodVars_none hV
  have k0 := h0
  have lt0 : ∀ x ∈ p0, x.block < W.heap.size := by obtain ⟨m, hm⟩ := k0; exact DataW.trod_lt m _ _ _ hm
  obtain ⟨x0, l0, rfl⟩ := open_bytesArr Try.underlying52 Try.underlying5 (by kernel_rfl) (by kernel_rfl) (hval 0 52 v0 rfl rfl) h0
  obtain ⟨a1, len1, cap1, rfl⟩ := okWide_slice Try.underlying22 (hval 1 22 v1 rfl rfl)
  have k1 := h1
  have lt1 : ∀ x ∈ p1, x.block < W.heap.size := by obtain ⟨m, hm⟩ := k1; exact DataW.trod_lt m _ _ _ hm
  obtain ⟨z1, w1⟩ : ∃ zs, IsRow .u8 W a1 len1 cap1 zs := by
    obtain ⟨fuel, hf⟩ := h1
    rcases open_ints Try.underlying22 Try.underlying5 (by kernel_rfl) hf with ⟨hcs, _⟩ | ⟨x, l, c, zs, hcs, _, hl, hm, hz, _, hcell, hwz⟩
    · simp [Value.cells] at hcs
      obtain ⟨rfl, rfl, rfl⟩ := hcs
      exact ⟨[], .inl ⟨rfl, rfl, rfl, rfl⟩⟩
    · simp [Value.cells] at hcs
      obtain ⟨rfl, rfl, rfl⟩ := hcs
      exact ⟨zs, .inr ⟨_, rfl, hl, hm, by simpa using hz, hcell, hwz⟩⟩
  clear hA0 hval0
  refine (polyTells_walk x0 a1 len1 cap1 z1 W l0 w1).mono fun e W' ⟨he, hp⟩ => ?_
  have bel : Below W.heap.size W W' := hp.below
  subst he
  exact ⟨_, rfl, _, _, _, [], _, [], hW', trodAll_mk1 (shut_bool Try.underlying4 _), (trodAll_cons_mk (Below.trod laidOut (by kernel_rfl) (of_decide_eq_true (by kernel_rfl)) k0 bel lt0) (trodAll_cons_mk (Below.trod laidOut (by kernel_rfl) (of_decide_eq_true (by kernel_rfl)) k1 bel lt1) trodAll_mk0)), rfl, bel.frame _, fun h => by cases h⟩
theorem over : Rows.polyTellsRow.holds Try.pinned (OpenSpec.ofChange Rows.polyTellsSpec) :=
  OpenClaim.holds_of_wide 12 Try.f12 rfl rfl rfl rfl rfl rfl rfl ⟨rfl, rfl, rfl, rfl, rfl⟩ rfl rfl rfl rfl rfl (by kernel_rfl) Try.func12 (by kernel_rfl)
    (of_decide_eq_true (by kernel_rfl)) (by unfold Func.isWrapper; first | (rw [if_pos (by decide +kernel)]; kernel_rfl) | (rw [if_neg (by decide +kernel)]; exact ⟨rfl, rfl⟩))
    (fun os started H enc _ => lifted os started H enc)
end polyTells
/-- The statement. -/
theorem polyTellsProved : Rows.PolyTellsSaid := polyTells.over
end Go.Proofs.Ytnhfmmohdiccgaa
