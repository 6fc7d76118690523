/-
  hatchwaylaw02.ChachaTells returns true, whatever its arguments. (Printed by a program of this session over its walk printer.)
-/
import Derived.Test.YtnhfmmohdiccgaaDoorCards
import Derived.Test.YtnhfmmohdiccgaaDoorTie
import Derived.Test.YtnhfmmohdiccgaaDoorLaw2
import Derived.Test.YtnhfmmohdiccgaaDoorLaid
import Derived.Test.YtnhfmmohdiccgaaDoorRef2B
namespace Go.Proofs.YtnhfmmohdiccgaaDoor
open Go.Sym Plain
set_option linter.unusedVariables false
set_option maxRecDepth 20000

theorem chachaTells_run (p : Option Addr) (m c : Nat) (key : List (BitVec 8)) (ctr : BitVec 32) (nonce xs : List (BitVec 8)) (w : World) (hk : key.length = 32) (hn : nonce.length = 12) (hx : Bytes w p m c xs) (hq0 : RdB w (some ⟨0, 0, none⟩) (qflat.map NV)) :
    Calls Tryd.prog 3 [.agg (key.map U8).toArray, U32 ctr, .agg (nonce.map U8).toArray, .slice p m c].toArray w fun r w' => r = .returned (.bool true) ∧ Hp w [] [] w' := by
  obtain ⟨k, hkk⟩ : ∃ k, k = Nat.min m 300 := ⟨_, rfl⟩
  have hk1 : k ≤ m := by rw [hkk]; exact Nat.min_le_left _ _
  have hk2 : k ≤ 300 := by rw [hkk]; exact Nat.min_le_right _ _
  have hb := hx.part hk1
  have hle := hx.le
  have hmx := hx.max
  have hbl := hb.length
  refine Tr.enter Tryd.func3 rfl Tryd.ntmps3 rfl (Hp.refl w) ?_
  refine Tr.seq ?_
  refine Tr.region ?_
  refine Tr.op (W.box (cs := key.map U8) rfl rfl rfl fun g4 => ?_)
  refine Tr.op (W.box (cs := nonce.map U8) rfl rfl rfl fun g6 => ?_)
  refine Tr.val (V.assign rfl) rfl ?_
  refine Tr.lNil ?_
  refine Tr.thenN ?_
  refine Tr.seq ?_
  refine Tr.region ?_
  refine Tr.op (W.call1 (args0) Tryd.call14 rfl (fun w1 hw => shown2_true w1 ((RdP.old hq0 (fun _ _ => by simp)).now hw)) ?_)
  refine Tr.val (V.assign rfl) rfl ?_
  refine Tr.lNil ?_
  refine Tr.thenN ?_
  refine Tr.seq ?_
  refine Tr.region ?_
  refine Tr.val (V.move rfl) rfl ?_
  refine Tr.val (V.move rfl) rfl ?_
  refine Tr.val (V.len Tryd.runUnderlying27 rfl) rfl ?_
  refine Tr.val ((by rw [hkk]; exact V.minN (b := 300) rfl rfl : VOp Tryd.prog _ _ _ _ _ _ _ (.int .i64 (k : Int)))) rfl ?_
  refine Tr.val (V.cut Tryd.runUnderlying27 Tryd.sizeOf5 rfl rfl (by omega)) rfl ?_
  refine Tr.val (V.assign rfl) rfl ?_
  refine Tr.lNil ?_
  refine Tr.thenN ?_
  refine Tr.seq ?_
  refine Tr.region ?_
  refine Tr.val (V.move rfl) rfl ?_
  refine Tr.val (V.bytesStr Tryd.runUnderlying27 Tryd.runUnderlying9 Tryd.runUnderlying5 rfl hb.old hbl) rfl ?_
  refine Tr.val (V.assign rfl) rfl ?_
  refine Tr.lNil ?_
  refine Tr.thenN ?_
  refine Tr.seq ?_
  refine Tr.region ?_
  refine Tr.val (V.loadN (cs := key.map U8) Tryd.isAgg23 (by rw [List.length_map, hk]; exact Tryd.sizeOf23) rfl (V.cellsB (by repeat (first | exact List.Mem.head _ | apply List.Mem.tail)))) rfl ?_
  refine Tr.val (V.move rfl) rfl ?_
  refine Tr.val (V.loadN (cs := nonce.map U8) Tryd.isAgg26 (by rw [List.length_map, hn]; exact Tryd.sizeOf26) rfl (V.cellsB (by repeat (first | exact List.Mem.head _ | apply List.Mem.tail)))) rfl ?_
  refine Tr.op (W.call1 (args3 rfl rfl rfl) Tryd.call15 rfl (fun w1 hw => block_any key ctr nonce w1 hk hn ((RdP.old hq0 (fun _ _ => by simp)).now hw)) ?_)
  refine Tr.op (W.alloc (cs := (List.replicate 64 0#8).map U8) Tryd.zeroValue29 rfl rfl fun g11 => ?_)
  refine Tr.op (W.storeAll (vs := (blockL key ctr nonce).map U8) (cs := (List.replicate 64 0#8).map U8) Tryd.sizeOf29 rfl rfl (by rw [List.length_map, blockL_len]) rfl (one8 _) (by repeat (first | exact Upd.head | apply Upd.tail)) ?_)
  refine Tr.lNil ?_
  refine Tr.thenN ?_
  refine Tr.seq ?_
  refine Tr.region ?_
  refine Tr.val (V.loadN (cs := key.map U8) Tryd.isAgg23 (by rw [List.length_map, hk]; exact Tryd.sizeOf23) rfl (V.cellsB (by repeat (first | exact List.Mem.head _ | apply List.Mem.tail)))) rfl ?_
  refine Tr.val (V.move rfl) rfl ?_
  refine Tr.val (V.loadN (cs := nonce.map U8) Tryd.isAgg26 (by rw [List.length_map, hn]; exact Tryd.sizeOf26) rfl (V.cellsB (by repeat (first | exact List.Mem.head _ | apply List.Mem.tail)))) rfl ?_
  refine Tr.val (V.move rfl) rfl ?_
  refine Tr.op (W.call (val := fun x : Nat × Nat × List Value => .slice (some ⟨x.1, 0, none⟩) k x.2.1) (N := fun x => [⟨x.1, 5, (streamL key ctr nonce (xs.take k)).map U8 ++ x.2.2⟩]) (Px := fun x => ((streamL key ctr nonce (xs.take k)).map U8 ++ x.2.2).length = x.2.1)  (args4 rfl rfl rfl rfl) Tryd.call16 rfl (fun w1 hw => stream_any p k c key ctr nonce (xs.take k) w1 hk hn (hb.now hw) (by omega) ((RdP.old hq0 (fun _ _ => by simp)).now hw)) fun y hy => ?_)
  refine Tr.val (V.assign rfl) rfl ?_
  refine Tr.lNil ?_
  refine Tr.thenN ?_
  refine Tr.seq ?_
  refine Tr.regionD [0, 1, 3, 7, 3, 3, 3, 115, 243, 511, 1023, 2047, 4095, 8191, 4095, 4095, 4095, 4095, 249855, 511999, 1048575, 2097151, 4194303, 8388607, 16777215, 8388607, 67108863, 134217727, 268435455] [] (.pure 0 (.pure 1 (.pure 2 (.soft 3 (.pure 4 (.pure 5 (.pure 6 (.hard 7 (.soft 8 (.pure 9 (.pure 10 (.pure 11 (.pure 12 (.soft 13 (.pure 14 (.pure 15 (.pure 16 (.pure 17 (.hard 18 (.soft 19 (.pure 20 (.pure 21 (.pure 22 (.pure 23 (.soft 24 (.pure 25 (.pure 26 (.pure 27 (.pure 28 .done))))))))))))))))))))))))))))) mixed (by kernel_rfl) ?_
  refine TrP.pure rfl (fun _ => V.move rfl) rfl ?_
  refine TrP.pure rfl (fun _ => V.move rfl) rfl ?_
  refine TrP.pureG rfl rfl (fun _ => V.sliceW Tryd.runUnderlying29 Tryd.sizeOf5 rfl) rfl ?_
  refine TrP.softG rfl rfl (V.bytesStr Tryd.runUnderlying27 Tryd.runUnderlying9 Tryd.runUnderlying5 rfl (xs := (blockL key ctr nonce)) (RdP.all (by repeat (first | exact List.Mem.head _ | apply List.Mem.tail))) (blockL_len _ _ _)) rfl ?_
  refine TrP.pureG rfl rfl (fun _ => V.sliceW Tryd.runUnderlying23 Tryd.sizeOf5 rfl) rfl ?_
  refine TrP.pureG rfl rfl (fun _ => V.move rfl) rfl ?_
  refine TrP.pureG rfl rfl (fun _ => V.sliceW Tryd.runUnderlying26 Tryd.sizeOf5 rfl) rfl ?_
  refine TrP.hardG rfl rfl (W.call (val := fun x : Nat × Nat × List Value => .slice (some ⟨x.1, 0, none⟩) 64 x.2.1) (N := fun x => [⟨x.1, 5, (blockL key ctr nonce).map U8 ++ x.2.2⟩]) (Px := fun x => ((blockL key ctr nonce).map U8 ++ x.2.2).length = x.2.1)  (args3 rfl rfl rfl) Tryd.call17 rfl (fun w1 hw => block2_any (some ⟨g4, 0, none⟩) (some ⟨g6, 0, none⟩) 32 12 key ctr nonce w1 ⟨(RdP.all (by repeat (first | exact List.Mem.head _ | apply List.Mem.tail))).now hw, hk, Nat.le_refl _, by omega, fun h => by cases h⟩ ⟨(RdP.all (by repeat (first | exact List.Mem.head _ | apply List.Mem.tail))).now hw, hn, Nat.le_refl _, by omega, fun h => by cases h⟩) fun z hz => ?_)
  refine Tr.pOn (by first | exact List.Sublist.refl _ | exact List.sublist_cons_self _ _ | exact List.sublist_append_right _ _ | simp) ?_
  refine TrP.softG rfl rfl (V.bytesStr Tryd.runUnderlying27 Tryd.runUnderlying9 Tryd.runUnderlying5 rfl (xs := (blockL key ctr nonce)) (RdP.headL (by repeat (first | exact List.Mem.head _ | apply List.Mem.tail))) (blockL_len _ _ _)) rfl ?_
  refine TrP.pureG rfl rfl (fun _ => V.eqlS (b := true) rfl rfl (bstr_same _)) rfl ?_
  refine TrP.pure rfl (fun _ => V.pick rfl rfl) rfl ?_
  refine TrP.pure rfl (fun _ => V.move rfl) rfl ?_
  refine TrP.pureG rfl rfl (fun _ => V.move rfl) rfl ?_
  refine TrP.softG rfl rfl (V.bytesStr Tryd.runUnderlying27 Tryd.runUnderlying9 Tryd.runUnderlying5 rfl (xs := (streamL key ctr nonce (xs.take k))) (RdP.headL (by repeat (first | exact List.Mem.head _ | apply List.Mem.tail))) (by rw [streamL_len]; exact hbl)) rfl ?_
  refine TrP.pureG rfl rfl (fun _ => V.sliceW Tryd.runUnderlying23 Tryd.sizeOf5 rfl) rfl ?_
  refine TrP.pureG rfl rfl (fun _ => V.move rfl) rfl ?_
  refine TrP.pureG rfl rfl (fun _ => V.sliceW Tryd.runUnderlying26 Tryd.sizeOf5 rfl) rfl ?_
  refine TrP.pureG rfl rfl (fun _ => V.move rfl) rfl ?_
  refine TrP.hardG rfl rfl (W.call (val := fun x : Nat × Nat × List Value => .slice (some ⟨x.1, 0, none⟩) k x.2.1) (N := fun x => [⟨x.1, 5, (streamL key ctr nonce (xs.take k)).map U8 ++ x.2.2⟩]) (Px := fun x => ((streamL key ctr nonce (xs.take k)).map U8 ++ x.2.2).length = x.2.1)  (args4 rfl rfl rfl rfl) Tryd.call18 rfl (fun w1 hw => stream2_any (some ⟨g4, 0, none⟩) (some ⟨g6, 0, none⟩) p 32 12 k c key ctr nonce (xs.take k) w1 ⟨(RdP.all (by repeat (first | exact List.Mem.head _ | apply List.Mem.tail))).now hw, hk, Nat.le_refl _, by omega, fun h => by cases h⟩ ⟨(RdP.all (by repeat (first | exact List.Mem.head _ | apply List.Mem.tail))).now hw, hn, Nat.le_refl _, by omega, fun h => by cases h⟩ (hb.now hw) (by omega)) fun u hu => ?_)
  refine Tr.pOn (by first | exact List.Sublist.refl _ | exact List.sublist_cons_self _ _ | exact List.sublist_append_right _ _ | simp) ?_
  refine TrP.softG rfl rfl (V.bytesStr Tryd.runUnderlying27 Tryd.runUnderlying9 Tryd.runUnderlying5 rfl (xs := (streamL key ctr nonce (xs.take k))) (RdP.headL (by repeat (first | exact List.Mem.head _ | apply List.Mem.tail))) (by rw [streamL_len]; exact hbl)) rfl ?_
  refine TrP.pureG rfl rfl (fun _ => V.eqlS (b := true) rfl rfl (bstr_same _)) rfl ?_
  refine TrP.pure rfl (fun _ => V.pick rfl rfl) rfl ?_
  refine TrP.pure rfl (fun _ => V.move rfl) rfl ?_
  refine TrP.pureG rfl rfl (fun _ => V.move rfl) rfl ?_
  refine TrP.softG rfl rfl (V.bytesStr Tryd.runUnderlying27 Tryd.runUnderlying9 Tryd.runUnderlying5 rfl hb.old hbl) rfl ?_
  refine TrP.pureG rfl rfl (fun _ => V.move rfl) rfl ?_
  refine TrP.pureG rfl rfl (fun _ => V.eqlS (b := true) rfl rfl (bstr_same _)) rfl ?_
  refine TrP.pure rfl (fun _ => V.pick rfl rfl) rfl ?_
  refine TrP.pure rfl (fun _ => V.assign rfl) rfl ?_
  refine TrP.done ?_
  refine Tr.thenN ?_
  refine Tr.ret ?_
  refine Tr.out1 rfl (Res.tmp rfl) fun w hw => ?_
  exact ⟨rfl, hw.sub (List.nil_sublist _)⟩

theorem chachaTells_walk (x0 : List (BitVec 8)) (a1 : Int) (x2 : List (BitVec 8)) (a3 : Option Addr) (len3 cap3 : Nat) (z3 : List Int) (w : World) (l0 : x0.length = 32) (w1 : (Lit.int .u32 a1).wf = true) (l2 : x2.length = 12) (w3 : IsRow .u8 w a3 len3 cap3 z3) (hq0 : RdB w (some ⟨0, 0, none⟩) (qflat.map NV)) :
    Calls Tryd.prog 3 #[.agg (x0.map U8).toArray, .int .u32 a1, .agg (x2.map U8).toArray, .slice a3 len3 cap3] w fun r w' => r = .returned (.bool true) ∧ Hp w [] [] w' := by
  obtain ⟨X, rfl⟩ := wf32 w1
  obtain ⟨xs, hx⟩ := w3.bytes
  exact chachaTells_run a3 len3 cap3 x0 X x2 xs w l0 l2 hx hq0
namespace chachaTells
open Go.ChangeShapes Go.WideShapes Go.ChangeAt Go.RowKit Go.Sym
theorem own : ownKnob Tryd.prog.godebug = none := by kernel_rfl
theorem laidOut : laidOutB Tryd.prog = true := by kernel_rfl
set_option maxRecDepth 100000 in
theorem lifted (os : Os) (started : os.Started) (H : Type) (enc : TypeId × Value → H) :
    ReturnsInHanded {} Tryd.checked os 3 .any (fun w args => (Rows.chachaTellsSpec.pre enc Tryd.prog Tryd.f3 [] false w args ∧ laidMetH Tryd.prog laidQ w) ∧ sizedMet enc Tryd.prog Tryd.f3 (OpenSpec.ofChange Rows.chachaTellsSpec) false w args) (Rows.chachaTellsSpec.post enc Tryd.prog Tryd.f3 false true false false) := by
  refine returnsInHanded_of_change_and (C := Tryd.checked) (X := fun w _ => laidMetH Tryd.prog laidQ w) (fun _ _ _ hh h => h.of_heap hh) own started (by kernel_rfl) Tryd.func3
    (ChangeSpec.witness_shaped (enc := enc) (C := Tryd.checked) (os := os) (X := fun w _ => laidMetH Tryd.prog laidQ w) false (World.doorLaid Tryd.prog 22 os) #[.agg #[.int .u8 0, .int .u8 0, .int .u8 0, .int .u8 0, .int .u8 0, .int .u8 0, .int .u8 0, .int .u8 0, .int .u8 0, .int .u8 0, .int .u8 0, .int .u8 0, .int .u8 0, .int .u8 0, .int .u8 0, .int .u8 0, .int .u8 0, .int .u8 0, .int .u8 0, .int .u8 0, .int .u8 0, .int .u8 0, .int .u8 0, .int .u8 0, .int .u8 0, .int .u8 0, .int .u8 0, .int .u8 0, .int .u8 0, .int .u8 0, .int .u8 0, .int .u8 0], .int .u32 0, .agg #[.int .u8 0, .int .u8 0, .int .u8 0, .int .u8 0, .int .u8 0, .int .u8 0, .int .u8 0, .int .u8 0, .int .u8 0, .int .u8 0, .int .u8 0, .int .u8 0], .slice none 0 0] 8 rfl (World.shaped_of_RefB (by kernel_rfl) (by kernel_rfl)) (by kernel_rfl) (by kernel_rfl) (by kernel_rfl) (door_met os _)) ?_
  intro W base args ds gs before hval0 hW _ _ hL _
  have hval : ∀ (j : Nat) t v, Tryd.f3.params[j]? = some t → args[j]? = some v → Value.okWide Tryd.prog W .any base t v := hval0
  have hW' := hW
  obtain ⟨p, q, hA0, hV, rfl, hfz, hnd⟩ := hW
  have hA : DataW.TrodAll enc Tryd.prog W 0 (fun _ => true) true Tryd.f3.params.toList args.toList ds p := hA0
  rw [Tryd.params3] at hA hval
  obtain ⟨v0, vs0, d0, ds0, p0, q0, hargs, rfl, rfl, h0, r0⟩ := trodAll_cons hA
  obtain ⟨v1, vs1, d1, ds1, p1, q1, rfl, rfl, rfl, h1, r1⟩ := trodAll_cons r0
  obtain ⟨v2, vs2, d2, ds2, p2, q2, rfl, rfl, rfl, h2, r2⟩ := trodAll_cons r1
  obtain ⟨v3, vs3, d3, ds3, p3, q3, rfl, rfl, rfl, h3, r3⟩ := trodAll_cons r2
  obtain ⟨rfl, rfl, rfl⟩ := trodAll_nil r3
  obtain rfl : args = #[v0, v1, v2, v3] := by cases args; simp_all
  obtain ⟨rfl, rfl⟩ := trodVars_none hV
  have k0 := h0
  have lt0 : ∀ x ∈ p0, x.block < W.heap.size := by obtain ⟨m, hm⟩ := k0; exact DataW.trod_lt m _ _ _ hm
  obtain ⟨x0, l0, rfl⟩ := open_bytesArr Tryd.underlying23 Tryd.underlying5 (by kernel_rfl) (by kernel_rfl) (hval 0 23 v0 rfl rfl) h0
  obtain ⟨a1, rfl, rfl, rfl, w1⟩ := open_int Tryd.underlying24 (hval 1 24 v1 rfl rfl) h1
  have k2 := h2
  have lt2 : ∀ x ∈ p2, x.block < W.heap.size := by obtain ⟨m, hm⟩ := k2; exact DataW.trod_lt m _ _ _ hm
  obtain ⟨x2, l2, rfl⟩ := open_bytesArr Tryd.underlying26 Tryd.underlying5 (by kernel_rfl) (by kernel_rfl) (hval 2 26 v2 rfl rfl) h2
  obtain ⟨a3, len3, cap3, rfl⟩ := okWide_slice Tryd.underlying27 (hval 3 27 v3 rfl rfl)
  have k3 := h3
  have lt3 : ∀ x ∈ p3, x.block < W.heap.size := by obtain ⟨m, hm⟩ := k3; exact DataW.trod_lt m _ _ _ hm
  obtain ⟨z3, w3⟩ : ∃ zs, IsRow .u8 W a3 len3 cap3 zs := by
    obtain ⟨fuel, hf⟩ := h3
    rcases open_ints Tryd.underlying27 Tryd.underlying5 (by kernel_rfl) hf with ⟨hcs, _⟩ | ⟨x, l, c, zs, hcs, _, hl, hm, hz, _, hcell, hwz⟩
    · simp [Value.cells] at hcs
      obtain ⟨rfl, rfl, rfl⟩ := hcs
      exact ⟨[], .inl ⟨rfl, rfl, rfl, rfl⟩⟩
    · simp [Value.cells] at hcs
      obtain ⟨rfl, rfl, rfl⟩ := hcs
      exact ⟨zs, .inr ⟨_, rfl, hl, hm, by simpa using hz, hcell, hwz⟩⟩
  clear hA0 hval0
  refine (chachaTells_walk x0 a1 x2 a3 len3 cap3 z3 W l0 w1 l2 w3 (of_laid hL)).mono fun e W' ⟨he, hp⟩ => ?_
  have bel : Below W.heap.size W W' := hp.below
  subst he
  exact ⟨_, rfl, _, _, _, [], _, [], hW', trodAll_mk1 (shut_bool Tryd.underlying4 _), (trodAll_cons_mk (Below.trod laidOut (by kernel_rfl) (of_decide_eq_true (by kernel_rfl)) k0 bel lt0) (trodAll_cons_mk (shut_int Tryd.underlying24 w1) (trodAll_cons_mk (Below.trod laidOut (by kernel_rfl) (of_decide_eq_true (by kernel_rfl)) k2 bel lt2) (trodAll_cons_mk (Below.trod laidOut (by kernel_rfl) (of_decide_eq_true (by kernel_rfl)) k3 bel lt3) trodAll_mk0)))), rfl, bel.frame _, fun h => by cases h⟩
theorem over : Rows.chachaTellsRow.holds Tryd.pinned (OpenSpec.ofChange Rows.chachaTellsSpec) :=
  OpenClaim.holds_of_wide 3 Tryd.f3 rfl rfl rfl rfl rfl rfl rfl ⟨rfl, rfl, rfl, rfl, rfl⟩ rfl rfl rfl rfl rfl (by kernel_rfl) Tryd.func3 (by kernel_rfl)
    (of_decide_eq_true (by kernel_rfl)) (by unfold Func.isWrapper; first | (rw [if_pos (by decide +kernel)]; kernel_rfl) | (rw [if_neg (by decide +kernel)]; exact ⟨rfl, rfl⟩))
    (fun os started H enc _ => lifted os started H enc)
end chachaTells
/-- The statement. -/
theorem chachaTellsProved : Rows.ChachaTellsCardSaid :=
  Claim7.holds_tied_plain_at .later [] [.data] true (true, "3370d27d9255588c3956976426ca7d2b61d4b9f8ebcd526ac9795ba27740e44b") false
    chachaTells.over (fun _ h => by cases h) (by kernel_rfl) (fun _ h => by cases h) chachaTells_row_tie rfl ⟨rfl, rfl⟩ (by kernel_rfl) rfl
    (fun f fn hf hfn => by
      obtain rfl : f = 3 := Option.some.inj ((show Tryd.prog.funcNamed "hatchway/hatchwaylaw02.ChachaTells" = some 3 by kernel_rfl).symm.trans hf) |>.symm
      obtain rfl : fn = Tryd.f3 := (Option.some.inj (Tryd.func3.symm.trans hfn)).symm
      exact ⟨by kernel_rfl, fun j t ht => by
        rw [Tryd.params3] at ht
        have hm : t ∈ [23, 24, 26, 27] := by simpa using Array.mem_of_getElem? ht
        have hall : ([23, 24, 26, 27].all fun u => !Tryd.prog.wantsStandIn u) = true := by kernel_rfl
        exact (show Tryd.prog.wantsStandIn t = false by simpa using List.all_eq_true.1 hall t hm)⟩)
    (by kernel_rfl)
end Go.Proofs.YtnhfmmohdiccgaaDoor
