/-
  hatchwaylaw03.PolyDoubles returns true, whatever its argument. (Printed by a program of this session over its walk printer.)
-/
import Derived.Test.YtnhfmmohdiccgaaRows
import Derived.Test.YtnhfmmohdiccgaaLaw3
namespace Go.Proofs.Ytnhfmmohdiccgaa
open Go.Sym Plain
set_option linter.unusedVariables false

theorem polyDoubles_run (X : BitVec 64) (w : World) : Calls Try.prog 17 [U64 X].toArray w fun r w' => r = .returned (.bool true) ∧ Hp w [] [] w' := by
  obtain ⟨key, hkey⟩ : ∃ key, key = (2#8 :: List.replicate 31 0#8) := ⟨_, rfl⟩
  have hk : key.length = 32 := by rw [hkey]; rfl
  obtain ⟨b, hb⟩ : ∃ b : Nat → List (BitVec 8), b = rowW X := ⟨_, rfl⟩
  have hbl : ∀ j, j ≤ 8 → (b j).length = 16 := fun j hj => by rw [hb]; exact rowW_len X j hj
  have hT := tag_two X
  rw [← hkey, ← hb] at hT
  refine Tr.enter Try.func17 rfl Try.ntmps17 rfl (Hp.refl w) ?_
  refine Tr.seq ?_
  refine Tr.region ?_
  refine Tr.val (V.assign rfl) rfl ?_
  refine Tr.lNil ?_
  refine Tr.thenN ?_
  refine Tr.seq ?_
  refine Tr.region ?_
  refine Tr.op (W.call1 (args0) Try.call35 rfl (fun w1 _ => shown3_true w1) ?_)
  refine Tr.val (V.assign rfl) rfl ?_
  refine Tr.lNil ?_
  refine Tr.thenN ?_
  refine Tr.seq ?_
  refine Tr.region ?_
  refine Tr.val ((by rw [hkey]; exact (V.buildA (vs := [(0, U8 2#8)]) (cs := ((2#8 :: List.replicate 31 0#8).map U8).toArray) Try.runUnderlying52 Try.sizeOf5 Try.zeroValue52 (fun a he => by simp [Act.eval]) rfl) : VOp Try.prog _ _ _ _ _ _ _ (.agg (key.map U8).toArray))) rfl ?_
  refine Tr.op (W.alloc (cs := (List.replicate 32 0#8).map U8) Try.zeroValue52 rfl rfl fun g4 => ?_)
  refine Tr.op (W.storeAll (vs := key.map U8) (cs := (List.replicate 32 0#8).map U8) Try.sizeOf52 rfl rfl (by rw [List.length_map, hk]) rfl (one8 _) (by repeat (first | exact Upd.head | apply Upd.tail)) ?_)
  refine Tr.lNil ?_
  refine Tr.thenN ?_
  refine Tr.seq ?_
  refine Tr.region ?_
  refine Tr.op (W.makeSlice (l := 16) (c := 16) elem22 rfl rfl rfl rfl (by omega) (by omega) (by omega) rfl fun g11 => ?_)
  refine Tr.val (V.assign rfl) rfl ?_
  refine Tr.lNil ?_
  refine Tr.thenN ?_
  refine Tr.seq ?_
  refine Tr.seq ?_
  refine Tr.region ?_
  refine Tr.val (V.assign rfl) rfl ?_
  refine Tr.lNil ?_
  refine Tr.thenN ?_
  refine Tr.block ?_
  refine Tr.loop (ι := Nat) (fun j => j ≤ 8) (fun j => [(0, U64 X), (3, .bool true), (4, .pointer (some ⟨g4, 0, none⟩)), (5, .slice (some ⟨g11, 0, none⟩) 16 16), (6, .int .i64 (j : Int))]) (fun j => [⟨g11, 5, (b j).map U8⟩, ⟨g4, 52, key.map U8⟩]) (fun j => 8 - j) 0 (Nat.zero_le _) (lk_cons rfl (lk_cons rfl (lk_cons rfl (lk_cons rfl (lk_cons rfl (lk_nil _)))))) (by rw [hb, rowW_zero, List.map_replicate]; exact List.Sublist.refl _) fun j hI => ?_
  refine Tr.seq ?_
  refine Tr.seq ?_
  refine Tr.region ?_
  refine Tr.val (V.move rfl) rfl ?_
  refine Tr.val (V.lss rfl rfl rfl) rfl ?_
  refine Tr.lNil ?_
  refine Tr.thenN ?_
  refine Tr.cond rfl (fun hT0 => ?_) (fun hF0 => ?_)
  · simp only [decide_eq_true_eq] at hT0
    have hlt : j < 8 := by omega
    have hset : (b j).set j ((X >>> (8 * j)).setWidth 8) = b (j + 1) := by rw [hb]; exact rowW_set X j hlt
    refine Tr.skip ?_
    refine Tr.thenN ?_
    refine Tr.seq ?_
    refine Tr.block ?_
    refine Tr.region ?_
    refine Tr.val (V.move rfl) rfl ?_
    refine Tr.val (V.move rfl) rfl ?_
    refine Tr.val (V.move rfl) rfl ?_
    refine Tr.val (V.move rfl) rfl ?_
    refine Tr.val (V.mulN (a := 8) rfl rfl (by omega)) rfl ?_
    refine Tr.val (V.convN_64 Try.runUnderlying3 Try.runUnderlying32 rfl (by omega) (by omega)) rfl ?_
    refine Tr.val (V.shr64 (s := 8 * j) rfl rfl) rfl ?_
    refine Tr.val (V.conv64_8 Try.runUnderlying23 Try.runUnderlying5 rfl) rfl ?_
    refine Tr.val (V.idxO (j := j) (o' := j) Try.runUnderlying22 Try.sizeOf5 rfl rfl (by omega) (by omega) (by omega)) rfl ?_
    refine Tr.op (W.store1E (cs := (b j).map U8) (v := U8 ((X >>> (8 * j)).setWidth 8)) (cs' := (b (j + 1)).map U8) Try.sizeOf5 rfl rfl rfl rfl (by rw [← hset, List.map_set]) (by repeat (first | exact Upd.head | apply Upd.tail)) (by rw [List.length_map, hbl j (by omega)]; omega) ?_)
    refine Tr.lNil ?_
    refine Tr.inN ?_
    refine Tr.thenN ?_
    refine Tr.region ?_
    refine Tr.val (V.move rfl) rfl ?_
    refine Tr.val (V.add rfl rfl (by omega)) rfl ?_
    refine Tr.val (V.assign rfl) rfl ?_
    refine Tr.lNil ?_
    exact Tr.again (j + 1) (by omega) (by omega) (lk_cons rfl (lk_cons rfl (lk_cons rfl (lk_cons rfl (lk_cons rfl (lk_nil _)))))) (List.Sublist.refl _)
  · simp only [decide_eq_false_iff_not] at hF0
    obtain rfl : j = 8 := by omega
    refine Tr.exit ?_
    refine Tr.thenX ?_
    refine Tr.thenX ?_
    refine Tr.inHit ?_
    refine Tr.thenN ?_
    refine Tr.seq ?_
    refine Tr.region ?_
    refine Tr.val (V.loadN (cs := key.map U8) Try.isAgg52 (by rw [List.length_map, hk]; exact Try.sizeOf52) rfl (V.cellsB (by repeat (first | exact List.Mem.head _ | apply List.Mem.tail)))) rfl ?_
    refine Tr.val (V.move rfl) rfl ?_
    refine Tr.op (W.call1 (args2 rfl rfl) Try.call36 rfl (fun w1 hw => by have h := sum_any (some ⟨g11, 0, none⟩) 16 16 key (b 8) w1 hk ⟨(RdP.all (List.Mem.head _)).now hw, hbl 8 (by omega), Nat.le_refl _, by omega, fun h => by cases h⟩; rw [hT] at h; exact h) ?_)
    refine Tr.op (W.call1 (args1 rfl) Try.call38 rfl (fun w1 hw => by have h := number_any (tagB (2 * X.toNat + 680564733841876926926749214863536422912)) w1 (tagB_len _); rw [tag_low, tag_high] at h; exact h) ?_)
    refine Tr.val (V.move rfl) rfl ?_
    refine Tr.val (V.extract rfl rfl) rfl ?_
    refine Tr.val (V.extract rfl rfl) rfl ?_
    refine Tr.val (V.assign rfl) rfl ?_
    refine Tr.val (V.assign rfl) rfl ?_
    refine Tr.lNil ?_
    refine Tr.thenN ?_
    refine Tr.seq ?_
    refine Tr.region ?_
    refine Tr.val (V.move rfl) rfl ?_
    refine Tr.val (V.move rfl) rfl ?_
    refine Tr.valG rfl (V.move rfl) rfl ?_
    refine Tr.valG rfl (V.move rfl) rfl ?_
    refine Tr.valG rfl (V.mul64 (X := 2#64) rfl rfl) rfl ?_
    refine Tr.valG rfl (V.eql64 (b := true) rfl rfl (decide_eq_true (two_low X))) rfl ?_
    refine Tr.val (V.pick rfl rfl) rfl ?_
    refine Tr.val (V.move rfl) rfl ?_
    refine Tr.valG rfl (V.move rfl) rfl ?_
    refine Tr.valG rfl (V.move rfl) rfl ?_
    refine Tr.valG rfl (V.shr64 (s := 63) rfl rfl) rfl ?_
    refine Tr.valG rfl (V.eql64 (b := true) rfl rfl (decide_eq_true (two_high X))) rfl ?_
    refine Tr.val (V.pick rfl rfl) rfl ?_
    refine Tr.val (V.assign rfl) rfl ?_
    refine Tr.lNil ?_
    refine Tr.thenN ?_
    refine Tr.ret ?_
    refine Tr.out1 rfl (Res.tmp rfl) fun w hw => ?_
    exact ⟨rfl, hw.sub (List.nil_sublist _)⟩

theorem polyDoubles_walk (a0 : Int) (w : World) (w0 : (Lit.int .u64 a0).wf = true) :
    Calls Try.prog 17 #[.int .u64 a0] w fun r w' => r = .returned (.bool true) ∧ Hp w [] [] w' := by
  obtain ⟨X, rfl⟩ := wf64 w0
  exact polyDoubles_run X w
namespace polyDoubles
open Go.ChangeShapes Go.WideShapes Go.ChangeAt Go.RowKit Go.Sym
theorem own : ownKnob Try.prog.godebug = none := by kernel_rfl
theorem laidOut : laidOutB Try.prog = true := by kernel_rfl
set_option maxRecDepth 100000 in
theorem lifted (os : Os) (started : os.Started) (H : Type) (enc : TypeId × Value → H) :
    ReturnsInHanded {} Try.checked os 17 .any (Rows.polyDoublesSpec.pre6 enc Try.prog Try.f17 Rows.polyDoublesRow.domain false) (Rows.polyDoublesSpec.post enc Try.prog Try.f17 false true false false) := by
  refine returnsInHanded_of_change (C := Try.checked) own started (by kernel_rfl) Try.func17
    (ChangeSpec.witness6 (enc := enc) (C := Try.checked) false ⟨#[], #[.int .u64 0], []⟩ 8 (by kernel_rfl) (by kernel_rfl) (by kernel_rfl) (by kernel_rfl)) ?_
  intro W base args ds gs before hval0 hW hcnd _
  have hval : ∀ (j : Nat) t v, Try.f17.params[j]? = some t → args[j]? = some v → Value.okWide Try.prog W .any base t v := hval0
  have hW' := hW
  obtain ⟨p, q, hA0, hV, rfl, hfz, hnd⟩ := hW
  have hA : DataW.TrodAll enc Try.prog W 0 (fun _ => true) true Try.f17.params.toList args.toList ds p := hA0
  rw [Try.params17] at hA hval
  obtain ⟨v0, vs0, d0, ds0, p0, q0, hargs, rfl, rfl, h0, r0⟩ := trodAll_cons hA
  obtain ⟨rfl, rfl, rfl⟩ := trodAll_nil r0
  obtain rfl : args = #[v0] := by cases args; simp_all
  obtain ⟨rfl, rfl⟩ := trodVars_none hV
  obtain ⟨a0, rfl, rfl, rfl, w0⟩ := open_int Try.underlying23 (hval 0 23 v0 rfl rfl) h0
  clear hA0 hval0
  refine (polyDoubles_walk a0 W w0).mono fun e W' ⟨he, hp⟩ => ?_
  have bel : Below W.heap.size W W' := hp.below
  subst he
  exact ⟨_, rfl, _, _, _, [], _, [], hW', trodAll_mk1 (shut_bool Try.underlying4 _), (trodAll_cons_mk (shut_int Try.underlying23 w0) trodAll_mk0), rfl, bel.frame _, fun h => by cases h⟩
theorem over : Rows.polyDoublesRow.holds Try.pinned (OpenSpec.ofChange Rows.polyDoublesSpec) :=
  OpenClaim.holds_of_wide 17 Try.f17 rfl rfl rfl rfl rfl rfl rfl ⟨rfl, rfl, rfl, rfl, rfl⟩ rfl rfl rfl rfl rfl (by kernel_rfl) Try.func17 (by kernel_rfl)
    (of_decide_eq_true (by kernel_rfl)) (by unfold Func.isWrapper; first | (rw [if_pos (by decide +kernel)]; kernel_rfl) | (rw [if_neg (by decide +kernel)]; exact ⟨rfl, rfl⟩))
    (fun os started H enc _ => lifted os started H enc)
end polyDoubles
/-- The statement. -/
theorem polyDoublesProved : Rows.PolyDoublesSaid := polyDoubles.over
end Go.Proofs.Ytnhfmmohdiccgaa
