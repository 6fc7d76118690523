/-
  hatchwaylaw02.ChachaBlocks returns true, whatever its arguments. (Printed by a program of this session over its walk printer.)
-/
import Derived.Test.YtnhfmmohdiccgaaDoorCards
import Derived.Test.YtnhfmmohdiccgaaDoorTie
import Derived.Test.YtnhfmmohdiccgaaDoorLaw2
import Derived.Test.YtnhfmmohdiccgaaDoorLaid
namespace Go.Proofs.YtnhfmmohdiccgaaDoor
open Go.Sym Plain
set_option linter.unusedVariables false

theorem chachaBlocks_run (i : Int) (key : List (BitVec 8)) (ctr : BitVec 32) (nonce : List (BitVec 8)) (w : World) (hk : key.length = 32) (hn : nonce.length = 12)  (hq0 : RdB w (some ⟨0, 0, none⟩) (qflat.map NV)) :
    Calls Tryd.prog 6 [.agg (key.map U8).toArray, U32 ctr, .agg (nonce.map U8).toArray, .int .i64 i].toArray w fun r w' => r = .returned (.bool true) ∧ Hp w [] [] w' := by
  obtain ⟨e, he⟩ : ∃ e : Nat, i % (2 ^ 16 : Nat) = (e : Int) := ⟨(i % (2 ^ 16 : Nat)).toNat, by omega⟩
  obtain ⟨nn, hnn⟩ : ∃ nn, nn = e % 301 := ⟨_, rfl⟩
  have hn3 : nn ≤ 300 := by omega
  refine Tr.enter Tryd.func6 rfl Tryd.ntmps6 rfl (Hp.refl w) ?_
  refine Tr.seq ?_
  refine Tr.region ?_
  refine Tr.op (W.box (cs := key.map U8) rfl rfl rfl fun g4 => ?_)
  refine Tr.op (W.box (cs := nonce.map U8) rfl rfl rfl fun g6 => ?_)
  refine Tr.val (V.assign rfl) rfl ?_
  refine Tr.lNil ?_
  refine Tr.thenN ?_
  refine Tr.seq ?_
  refine Tr.region ?_
  refine Tr.op (W.call1 (args0) Tryd.call14 rfl (fun w1 hw => shown2_true w1 ((RdP.old hq0 (fun _ _ => by simp)).now hw)) ?_)
  refine Tr.val (V.assign rfl) rfl ?_
  refine Tr.lNil ?_
  refine Tr.thenN ?_
  refine Tr.seq ?_
  refine Tr.region ?_
  refine Tr.val (V.move rfl) rfl ?_
  refine Tr.val ((by rw [← he]; exact V.mask (k := 16) rfl rfl (by decide) : VOp Tryd.prog _ _ _ _ _ _ _ (.int .i64 (e : Int)))) rfl ?_
  refine Tr.val ((by rw [hnn]; exact V.remN (b := 301) rfl rfl (by omega) : VOp Tryd.prog _ _ _ _ _ _ _ (NV nn))) rfl ?_
  refine Tr.val (V.assign rfl) rfl ?_
  refine Tr.lNil ?_
  refine Tr.thenN ?_
  refine Tr.seq ?_
  refine Tr.regionD [0, 0, 0, 0, 8, 31, 63] [] (.soft 0 (.pure 1 (.soft 2 (.pure 3 (.hard 4 (.hard 5 (.pure 6 .done))))))) mixed (by kernel_rfl) ?_
  refine TrP.soft rfl (V.loadN (cs := key.map U8) Tryd.isAgg23 (by rw [List.length_map, hk]; exact Tryd.sizeOf23) rfl (V.cellsB (by repeat (first | exact List.Mem.head _ | apply List.Mem.tail)))) rfl ?_
  refine TrP.pure rfl (fun _ => V.move rfl) rfl ?_
  refine TrP.soft rfl (V.loadN (cs := nonce.map U8) Tryd.isAgg26 (by rw [List.length_map, hn]; exact Tryd.sizeOf26) rfl (V.cellsB (by repeat (first | exact List.Mem.head _ | apply List.Mem.tail)))) rfl ?_
  refine TrP.pure rfl (fun _ => V.move rfl) rfl ?_
  refine TrP.hard rfl (W.makeSlice (l := nn) (c := nn) elem27 rfl rfl rfl rfl (by omega) (by omega) (by omega) rfl fun g21 => ?_)
  refine Tr.pOn (by first | exact List.Sublist.refl _ | exact List.sublist_cons_self _ _ | exact List.sublist_append_right _ _ | simp) ?_
  refine TrP.hard rfl (W.call (val := fun x : Nat × Nat × List Value => .slice (some ⟨x.1, 0, none⟩) nn x.2.1) (N := fun x => [⟨x.1, 5, (streamL key ctr nonce (List.replicate nn 0#8)).map U8 ++ x.2.2⟩]) (Px := fun x => ((streamL key ctr nonce (List.replicate nn 0#8)).map U8 ++ x.2.2).length = x.2.1)  (args4 rfl rfl rfl rfl) Tryd.call16 rfl (fun w1 hw => stream_any (some ⟨g21, 0, none⟩) nn nn key ctr nonce (List.replicate nn 0#8) w1 hk hn ⟨(by rw [List.map_replicate]; exact (RdP.all (List.Mem.head _)).now hw), by simp, Nat.le_refl _, by omega, fun h => by cases h⟩ (by omega) ((RdP.old hq0 (fun _ _ => by simp)).now hw)) fun y hy => ?_)
  refine Tr.pOn (by first | exact List.Sublist.refl _ | exact List.sublist_cons_self _ _ | exact List.sublist_append_right _ _ | simp) ?_
  refine TrP.pure rfl (fun _ => V.assign rfl) rfl ?_
  refine TrP.done ?_
  refine Tr.thenN ?_
  refine Tr.seq ?_
  refine Tr.seq ?_
  refine Tr.region ?_
  refine Tr.val (V.move rfl) rfl ?_
  refine Tr.val (V.len Tryd.runUnderlying27 rfl) rfl ?_
  refine Tr.val (V.move rfl) rfl ?_
  refine Tr.val (V.neq (b := false) rfl rfl (decide_eq_false (by omega))) rfl ?_
  refine Tr.lNil ?_
  refine Tr.thenN ?_
  refine Tr.condF rfl ?_
  refine Tr.skip ?_
  refine Tr.thenN ?_
  refine Tr.seq ?_
  refine Tr.seq ?_
  refine Tr.region ?_
  refine Tr.val (V.assign rfl) rfl ?_
  refine Tr.lNil ?_
  refine Tr.thenN ?_
  refine Tr.block ?_
  refine Tr.loop (ι := Nat) (fun j => j ≤ nn) (fun j => [(1, U32 ctr), (3, NV nn), (4, .pointer (some ⟨g4, 0, none⟩)), (6, .pointer (some ⟨g6, 0, none⟩)), (9, .bool true), (10, .slice (some ⟨y.1, 0, none⟩) nn y.2.1), (11, NV j)]) (fun j => [⟨y.1, 5, (streamL key ctr nonce (List.replicate nn 0#8)).map U8 ++ y.2.2⟩, ⟨g6, 26, nonce.map U8⟩, ⟨g4, 23, key.map U8⟩]) (fun j => nn - j) 0 (Nat.zero_le _) (lk_cons rfl (lk_cons rfl (lk_cons rfl (lk_cons rfl (lk_cons rfl (lk_cons rfl (lk_cons rfl (lk_nil _)))))))) (.cons_cons _ (List.sublist_cons_self _ _)) fun j hI => ?_
  refine Tr.seq ?_
  refine Tr.seq ?_
  refine Tr.region ?_
  refine Tr.val (V.move rfl) rfl ?_
  refine Tr.val (V.move rfl) rfl ?_
  refine Tr.val (V.lss rfl rfl rfl) rfl ?_
  refine Tr.lNil ?_
  refine Tr.thenN ?_
  refine Tr.cond rfl (fun hT1 => ?_) (fun hF1 => ?_)
  · simp only [decide_eq_true_eq] at hT1
    have hlt : j < nn := by omega
    have hs := streamL_get key ctr nonce (List.replicate nn 0#8) j 0#8 (by rw [List.getElem?_replicate, if_pos hlt])
    refine Tr.skip ?_
    refine Tr.thenN ?_
    refine Tr.seq ?_
    refine Tr.block ?_
    refine Tr.seq ?_
    refine Tr.region ?_
    refine Tr.val (V.loadN (cs := key.map U8) Tryd.isAgg23 (by rw [List.length_map, hk]; exact Tryd.sizeOf23) rfl (V.cellsB (by repeat (first | exact List.Mem.head _ | apply List.Mem.tail)))) rfl ?_
    refine Tr.val (V.move rfl) rfl ?_
    refine Tr.val (V.move rfl) rfl ?_
    refine Tr.val (V.quoN (b := 64) rfl rfl (by omega) (by omega)) rfl ?_
    refine Tr.val (V.convN_32 (a := j / 64) Tryd.runUnderlying3 Tryd.runUnderlying24 rfl) rfl ?_
    refine Tr.val (V.add32 rfl rfl) rfl ?_
    refine Tr.val (V.loadN (cs := nonce.map U8) Tryd.isAgg26 (by rw [List.length_map, hn]; exact Tryd.sizeOf26) rfl (V.cellsB (by repeat (first | exact List.Mem.head _ | apply List.Mem.tail)))) rfl ?_
    refine Tr.op (W.call1 (args3 rfl rfl rfl) Tryd.call15 rfl (fun w1 hw => block_any key (ctr + BitVec.ofNat 32 (j / 64)) nonce w1 hk hn ((RdP.old hq0 (fun _ _ => by simp)).now hw)) ?_)
    refine Tr.op (W.alloc (cs := (List.replicate 64 0#8).map U8) Tryd.zeroValue29 rfl rfl fun g12 => ?_)
    refine Tr.op (W.storeAll (vs := (blockL key (ctr + BitVec.ofNat 32 (j / 64)) nonce).map U8) (cs := (List.replicate 64 0#8).map U8) Tryd.sizeOf29 rfl rfl (by rw [List.length_map, blockL_len]) rfl (one8 _) (by repeat (first | exact Upd.head | apply Upd.tail)) ?_)
    refine Tr.lNil ?_
    refine Tr.thenN ?_
    refine Tr.seq ?_
    refine Tr.regionD [0, 0, 3, 7, 0, 16, 48, 112, 255] [] (.pure 0 (.pure 1 (.pure 2 (.soft 3 (.pure 4 (.pure 5 (.pure 6 (.soft 7 (.pure 8 .done))))))))) mixed (by kernel_rfl) ?_
    refine TrP.pure rfl (fun _ => V.move rfl) rfl ?_
    refine TrP.pure rfl (fun _ => V.move rfl) rfl ?_
    refine TrP.pure rfl (fun _ => V.idxO (j := j) (o' := j) Tryd.runUnderlying27 Tryd.sizeOf5 rfl rfl (by omega) (by omega) (by omega)) rfl ?_
    refine TrP.soft rfl (V.load1 Tryd.isAgg5 rfl (V.cellB (by repeat (first | exact List.Mem.head _ | apply List.Mem.tail)) (by rw [List.getElem?_append_left (by rw [List.length_map, streamL_len, List.length_replicate]; omega), List.getElem?_map, hs]; rfl))) rfl ?_
    refine TrP.pure rfl (fun _ => V.move rfl) rfl ?_
    refine TrP.pure rfl (fun _ => V.remN (b := 64) rfl rfl (by omega)) rfl ?_
    refine TrP.pure rfl (fun _ => V.idxA (j := (j % 64)) (o' := (j % 64)) Tryd.runUnderlying29 Tryd.sizeOf5 rfl rfl (by omega) (by omega) (by omega)) rfl ?_
    refine TrP.soft rfl (V.load1 Tryd.isAgg5 rfl (V.cellB (by repeat (first | exact List.Mem.head _ | apply List.Mem.tail)) (get8 (blockL key (ctr + BitVec.ofNat 32 (j / 64)) nonce) (j % 64) (by rw [blockL_len]; omega)))) rfl ?_
    refine TrP.pure rfl (fun _ => V.neq8 (b := false) rfl rfl (by rw [BitVec.zero_xor]; simp [ksAt])) rfl ?_
    refine TrP.done ?_
    refine Tr.thenN ?_
    refine Tr.condF rfl ?_
    refine Tr.skip ?_
    refine Tr.inN ?_
    refine Tr.thenN ?_
    refine Tr.region ?_
    refine Tr.val (V.move rfl) rfl ?_
    refine Tr.val (V.add rfl rfl (by omega)) rfl ?_
    refine Tr.val (V.assign rfl) rfl ?_
    refine Tr.lNil ?_
    exact Tr.again (j + 1) (by omega) (by omega) (lk_cons rfl (lk_cons rfl (lk_cons rfl (lk_cons rfl (lk_cons rfl (lk_cons rfl (lk_cons rfl (lk_nil _)))))))) (List.sublist_cons_self _ _)
  · simp only [decide_eq_false_iff_not] at hF1
    refine Tr.exit ?_
    refine Tr.thenX ?_
    refine Tr.thenX ?_
    refine Tr.inHit ?_
    refine Tr.thenN ?_
    refine Tr.seq ?_
    refine Tr.region ?_
    refine Tr.val (V.move rfl) rfl ?_
    refine Tr.val (V.assign rfl) rfl ?_
    refine Tr.lNil ?_
    refine Tr.thenN ?_
    refine Tr.ret ?_
    refine Tr.out1 rfl (Res.tmp rfl) fun w hw => ?_
    exact ⟨rfl, hw.sub (List.nil_sublist _)⟩

theorem chachaBlocks_walk (x0 : List (BitVec 8)) (a1 : Int) (x2 : List (BitVec 8)) (a3 : Int) (w : World) (l0 : x0.length = 32) (w1 : (Lit.int .u32 a1).wf = true) (l2 : x2.length = 12) (w3 : (Lit.int .i64 a3).wf = true) (hq0 : RdB w (some ⟨0, 0, none⟩) (qflat.map NV)) :
    Calls Tryd.prog 6 #[.agg (x0.map U8).toArray, .int .u32 a1, .agg (x2.map U8).toArray, .int .i64 a3] w fun r w' => r = .returned (.bool true) ∧ Hp w [] [] w' := by
  obtain ⟨X, rfl⟩ := wf32 w1
  exact chachaBlocks_run a3 x0 X x2 w l0 l2 hq0
namespace chachaBlocks
open Go.ChangeShapes Go.WideShapes Go.ChangeAt Go.RowKit Go.Sym
theorem own : ownKnob Tryd.prog.godebug = none := by kernel_rfl
theorem laidOut : laidOutB Tryd.prog = true := by kernel_rfl
set_option maxRecDepth 100000 in
theorem lifted (os : Os) (started : os.Started) (H : Type) (enc : TypeId × Value → H) :
    ReturnsInHanded {} Tryd.checked os 6 .any (fun w args => (Rows.chachaBlocksSpec.pre enc Tryd.prog Tryd.f6 [] false w args ∧ laidMetH Tryd.prog laidQ w) ∧ sizedMet enc Tryd.prog Tryd.f6 (OpenSpec.ofChange Rows.chachaBlocksSpec) false w args) (Rows.chachaBlocksSpec.post enc Tryd.prog Tryd.f6 false true false false) := by
  refine returnsInHanded_of_change_and (C := Tryd.checked) (X := fun w _ => laidMetH Tryd.prog laidQ w) (fun _ _ _ hh h => h.of_heap hh) own started (by kernel_rfl) Tryd.func6
    (ChangeSpec.witness_shaped (enc := enc) (C := Tryd.checked) (os := os) (X := fun w _ => laidMetH Tryd.prog laidQ w) false (World.doorLaid Tryd.prog 22 os) #[.agg #[.int .u8 0, .int .u8 0, .int .u8 0, .int .u8 0, .int .u8 0, .int .u8 0, .int .u8 0, .int .u8 0, .int .u8 0, .int .u8 0, .int .u8 0, .int .u8 0, .int .u8 0, .int .u8 0, .int .u8 0, .int .u8 0, .int .u8 0, .int .u8 0, .int .u8 0, .int .u8 0, .int .u8 0, .int .u8 0, .int .u8 0, .int .u8 0, .int .u8 0, .int .u8 0, .int .u8 0, .int .u8 0, .int .u8 0, .int .u8 0, .int .u8 0, .int .u8 0], .int .u32 0, .agg #[.int .u8 0, .int .u8 0, .int .u8 0, .int .u8 0, .int .u8 0, .int .u8 0, .int .u8 0, .int .u8 0, .int .u8 0, .int .u8 0, .int .u8 0, .int .u8 0], .int .i64 0] 8 rfl (World.shaped_of_RefB (by kernel_rfl) (by kernel_rfl)) (by kernel_rfl) (by kernel_rfl) (by kernel_rfl) (door_met os _)) ?_
  intro W base args ds gs before hval0 hW _ _ hL _
  have hval : ∀ (j : Nat) t v, Tryd.f6.params[j]? = some t → args[j]? = some v → Value.okWide Tryd.prog W .any base t v := hval0
  have hW' := hW
  obtain ⟨p, q, hA0, hV, rfl, hfz, hnd⟩ := hW
  have hA : DataW.TrodAll enc Tryd.prog W 0 (fun _ => true) true Tryd.f6.params.toList args.toList ds p := hA0
  rw [Tryd.params6] at hA hval
  obtain ⟨v0, vs0, d0, ds0, p0, q0, hargs, rfl, rfl, h0, r0⟩ := trodAll_cons hA
  obtain ⟨v1, vs1, d1, ds1, p1, q1, rfl, rfl, rfl, h1, r1⟩ := trodAll_cons r0
  obtain ⟨v2, vs2, d2, ds2, p2, q2, rfl, rfl, rfl, h2, r2⟩ := trodAll_cons r1
  obtain ⟨v3, vs3, d3, ds3, p3, q3, rfl, rfl, rfl, h3, r3⟩ := trodAll_cons r2
  obtain ⟨rfl, rfl, rfl⟩ := trodAll_nil r3
  obtain rfl : args = #[v0, v1, v2, v3] := by cases args; simp_all
  obtain ⟨rfl, rfl⟩ := trodVars_none hV
  have k0 := h0
  have lt0 : ∀ x ∈ p0, x.block < W.heap.size := by obtain ⟨m, hm⟩ := k0; exact DataW.trod_lt m _ _ _ hm
  obtain ⟨x0, l0, rfl⟩ := open_bytesArr Tryd.underlying23 Tryd.underlying5 (by kernel_rfl) (by kernel_rfl) (hval 0 23 v0 rfl rfl) h0
  obtain ⟨a1, rfl, rfl, rfl, w1⟩ := open_int Tryd.underlying24 (hval 1 24 v1 rfl rfl) h1
  have k2 := h2
  have lt2 : ∀ x ∈ p2, x.block < W.heap.size := by obtain ⟨m, hm⟩ := k2; exact DataW.trod_lt m _ _ _ hm
  obtain ⟨x2, l2, rfl⟩ := open_bytesArr Tryd.underlying26 Tryd.underlying5 (by kernel_rfl) (by kernel_rfl) (hval 2 26 v2 rfl rfl) h2
  obtain ⟨a3, rfl, rfl, rfl, w3⟩ := open_int Tryd.underlying3 (hval 3 3 v3 rfl rfl) h3
  clear hA0 hval0
  refine (chachaBlocks_walk x0 a1 x2 a3 W l0 w1 l2 w3 (of_laid hL)).mono fun e W' ⟨he, hp⟩ => ?_
  have bel : Below W.heap.size W W' := hp.below
  subst he
  exact ⟨_, rfl, _, _, _, [], _, [], hW', trodAll_mk1 (shut_bool Tryd.underlying4 _), (trodAll_cons_mk (Below.trod laidOut (by kernel_rfl) (of_decide_eq_true (by kernel_rfl)) k0 bel lt0) (trodAll_cons_mk (shut_int Tryd.underlying24 w1) (trodAll_cons_mk (Below.trod laidOut (by kernel_rfl) (of_decide_eq_true (by kernel_rfl)) k2 bel lt2) (trodAll_cons_mk (shut_int Tryd.underlying3 w3) trodAll_mk0)))), rfl, bel.frame _, fun h => by cases h⟩
theorem over : Rows.chachaBlocksRow.holds Tryd.pinned (OpenSpec.ofChange Rows.chachaBlocksSpec) :=
  OpenClaim.holds_of_wide 6 Tryd.f6 rfl rfl rfl rfl rfl rfl rfl ⟨rfl, rfl, rfl, rfl, rfl⟩ rfl rfl rfl rfl rfl (by kernel_rfl) Tryd.func6 (by kernel_rfl)
    (of_decide_eq_true (by kernel_rfl)) (by unfold Func.isWrapper; first | (rw [if_pos (by decide +kernel)]; kernel_rfl) | (rw [if_neg (by decide +kernel)]; exact ⟨rfl, rfl⟩))
    (fun os started H enc _ => lifted os started H enc)
end chachaBlocks
/-- The statement. -/
theorem chachaBlocksProved : Rows.ChachaBlocksCardSaid :=
  Claim7.holds_tied_plain_at .later [] [.data] true (true, "3370d27d9255588c3956976426ca7d2b61d4b9f8ebcd526ac9795ba27740e44b") false
    chachaBlocks.over (fun _ h => by cases h) (by kernel_rfl) (fun _ h => by cases h) chachaBlocks_row_tie rfl ⟨rfl, rfl⟩ (by kernel_rfl) rfl
    (fun f fn hf hfn => by
      obtain rfl : f = 6 := Option.some.inj ((show Tryd.prog.funcNamed "hatchway/hatchwaylaw02.ChachaBlocks" = some 6 by kernel_rfl).symm.trans hf) |>.symm
      obtain rfl : fn = Tryd.f6 := (Option.some.inj (Tryd.func6.symm.trans hfn)).symm
      exact ⟨by kernel_rfl, fun j t ht => by
        rw [Tryd.params6] at ht
        have hm : t ∈ [23, 24, 26, 3] := by simpa using Array.mem_of_getElem? ht
        have hall : ([23, 24, 26, 3].all fun u => !Tryd.prog.wantsStandIn u) = true := by kernel_rfl
        exact (show Tryd.prog.wantsStandIn t = false by simpa using List.all_eq_true.1 hall t hm)⟩)
    (by kernel_rfl)
end Go.Proofs.YtnhfmmohdiccgaaDoor
