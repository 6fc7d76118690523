/-
  hatchwaylaw04.AeadStream returns true, whatever its arguments. (Printed by a program of this session over its walk printer.)
-/
import Derived.Test.YtnhfmmohdiccgaaDoorCards
import Derived.Test.YtnhfmmohdiccgaaDoorTie
import Derived.Test.YtnhfmmohdiccgaaDoorLaw4
import Derived.Test.YtnhfmmohdiccgaaDoorLaid
namespace Go.Proofs.YtnhfmmohdiccgaaDoor
open Go.Sym Plain
set_option linter.unusedVariables false
set_option maxRecDepth 20000

theorem aeadStream_run (p : Option Addr) (m c : Nat) (key nonce xs : List (BitVec 8)) (w : World) (hk : key.length = 32) (hn : nonce.length = 12) (hx : Bytes w p m c xs) (hq0 : RdB w (some ⟨0, 0, none⟩) (qflat.map NV)) :
    Calls Tryd.prog 11 [.agg (key.map U8).toArray, .agg (nonce.map U8).toArray, .slice p m c].toArray w fun r w' => r = .returned (.bool true) ∧ Hp w [] [] w' := by
  obtain ⟨k, hkk⟩ : ∃ k, k = Nat.min m 200 := ⟨_, rfl⟩
  have hk1 : k ≤ m := by rw [hkk]; exact Nat.min_le_left _ _
  have hk2 : k ≤ 200 := by rw [hkk]; exact Nat.min_le_right _ _
  have hb := hx.part hk1
  have hble := hx.le
  have hbmx := hx.max
  have hbl := hb.length
  refine Tr.enter Tryd.func11 rfl Tryd.ntmps11 rfl (Hp.refl w) ?_
  refine Tr.seq ?_
  refine Tr.region ?_
  refine Tr.op (W.box (cs := key.map U8) rfl rfl rfl fun g3 => ?_)
  refine Tr.op (W.box (cs := nonce.map U8) rfl rfl rfl fun g4 => ?_)
  refine Tr.val (V.assign rfl) rfl ?_
  refine Tr.lNil ?_
  refine Tr.thenN ?_
  refine Tr.seq ?_
  refine Tr.region ?_
  refine Tr.op (W.call1 (args0) Tryd.call19 rfl (fun w1 hw => shown4_true w1 ((RdP.old hq0 (fun _ _ => by simp)).now hw)) ?_)
  refine Tr.val (V.assign rfl) rfl ?_
  refine Tr.lNil ?_
  refine Tr.thenN ?_
  refine Tr.seq ?_
  refine Tr.region ?_
  refine Tr.val (V.move rfl) rfl ?_
  refine Tr.val (V.move rfl) rfl ?_
  refine Tr.val (V.len Tryd.runUnderlying27 rfl) rfl ?_
  refine Tr.val ((by rw [hkk]; exact V.minN (b := 200) rfl rfl : VOp Tryd.prog _ _ _ _ _ _ _ (.int .i64 (k : Int)))) rfl ?_
  refine Tr.val (V.cut Tryd.runUnderlying27 Tryd.sizeOf5 rfl rfl (by omega)) rfl ?_
  refine Tr.val (V.assign rfl) rfl ?_
  refine Tr.lNil ?_
  refine Tr.thenN ?_
  refine Tr.seq ?_
  refine Tr.region ?_
  refine Tr.val (V.loadN (cs := key.map U8) Tryd.isAgg23 (by rw [List.length_map, hk]; exact Tryd.sizeOf23) rfl (V.cellsB (by repeat (first | exact List.Mem.head _ | apply List.Mem.tail)))) rfl ?_
  refine Tr.val (V.loadN (cs := nonce.map U8) Tryd.isAgg26 (by rw [List.length_map, hn]; exact Tryd.sizeOf26) rfl (V.cellsB (by repeat (first | exact List.Mem.head _ | apply List.Mem.tail)))) rfl ?_
  refine Tr.val (V.move rfl) rfl ?_
  refine Tr.op (W.call (val := fun r0 : Nat × Nat × List Value => .slice (some ⟨r0.1, 0, none⟩) (k + 16) r0.2.1) (N := fun r0 => [⟨r0.1, 5, (sealL key nonce [] (xs.take k)).map U8 ++ r0.2.2⟩]) (Px := fun r0 => ((sealL key nonce [] (xs.take k)).map U8 ++ r0.2.2).length = r0.2.1)  (args4 rfl rfl rfl rfl) Tryd.call20 rfl (fun w1 hw => seal_any Option.none p 0 0 k c key nonce [] (xs.take k) w1 hk hn (Bytes.no w1) (hb.now hw) (by omega) (by omega) ((RdP.old hq0 (fun _ _ => by simp)).now hw)) fun y hy => ?_)
  have hcap : k ≤ y.2.1 := by rw [← hy, List.length_append, List.length_map, sealL_len, hbl]; omega
  have hst : (sealL key nonce [] (xs.take k)).take k = (streamL key 1#32 nonce (xs.take k)) := by have e := sealL_take key nonce [] (xs.take k); rw [hbl] at e; exact e
  refine Tr.val (V.assign rfl) rfl ?_
  refine Tr.lNil ?_
  refine Tr.thenN ?_
  refine Tr.seq ?_
  refine Tr.regionD [0, 1, 3, 7, 3, 19, 51, 127, 255, 511, 1023, 1023, 3071, 8191, 16383, 1023, 1023, 1023, 230399, 492543, 1048575, 2097151, 4194303] [] (.pure 0 (.pure 1 (.pure 2 (.pure 3 (.pure 4 (.pure 5 (.pure 6 (.pure 7 (.pure 8 (.pure 9 (.pure 10 (.pure 11 (.pure 12 (.pure 13 (.soft 14 (.soft 15 (.soft 16 (.pure 17 (.hard 18 (.soft 19 (.pure 20 (.pure 21 (.pure 22 .done))))))))))))))))))))))) mixed (by kernel_rfl) ?_
  refine TrP.pure rfl (fun _ => V.move rfl) rfl ?_
  refine TrP.pure rfl (fun _ => V.move rfl) rfl ?_
  refine TrP.pureG rfl rfl (fun _ => V.move rfl) rfl ?_
  refine TrP.pureG rfl rfl (fun _ => V.len Tryd.runUnderlying27 rfl) rfl ?_
  refine TrP.pureG rfl rfl (fun _ => V.move rfl) rfl ?_
  refine TrP.pureG rfl rfl (fun _ => V.len Tryd.runUnderlying27 rfl) rfl ?_
  refine TrP.pureG rfl rfl (fun _ => V.addN (b := 16) rfl rfl (by omega)) rfl ?_
  refine TrP.pureG rfl rfl (fun _ => V.eql (b := true) rfl rfl (decide_eq_true rfl)) rfl ?_
  refine TrP.pure rfl (fun _ => V.pick rfl rfl) rfl ?_
  refine TrP.pure rfl (fun _ => V.move rfl) rfl ?_
  refine TrP.pureG rfl rfl (fun _ => V.move rfl) rfl ?_
  refine TrP.pureG rfl rfl (fun _ => V.move rfl) rfl ?_
  refine TrP.pureG rfl rfl (fun _ => V.len Tryd.runUnderlying27 rfl) rfl ?_
  refine TrP.pureG rfl rfl (fun _ => V.cut Tryd.runUnderlying27 Tryd.sizeOf5 rfl rfl hcap) rfl ?_
  refine TrP.softG rfl rfl (V.bytesStr Tryd.runUnderlying27 Tryd.runUnderlying9 Tryd.runUnderlying5 rfl (xs := (sealL key nonce [] (xs.take k)).take k) (by rw [List.map_take]; exact (RdP.headL (by repeat (first | exact List.Mem.head _ | apply List.Mem.tail))).take k) (by rw [List.length_take, sealL_len, hbl]; omega)) rfl ?_
  refine TrP.softG rfl rfl (V.loadN (cs := key.map U8) Tryd.isAgg23 (by rw [List.length_map, hk]; exact Tryd.sizeOf23) rfl (V.cellsB (by repeat (first | exact List.Mem.head _ | apply List.Mem.tail)))) rfl ?_
  refine TrP.softG rfl rfl (V.loadN (cs := nonce.map U8) Tryd.isAgg26 (by rw [List.length_map, hn]; exact Tryd.sizeOf26) rfl (V.cellsB (by repeat (first | exact List.Mem.head _ | apply List.Mem.tail)))) rfl ?_
  refine TrP.pureG rfl rfl (fun _ => V.move rfl) rfl ?_
  refine TrP.hardG rfl rfl (W.call (val := fun r0 : Nat × Nat × List Value => .slice (some ⟨r0.1, 0, none⟩) k r0.2.1) (N := fun r0 => [⟨r0.1, 5, (streamL key 1#32 nonce (xs.take k)).map U8 ++ r0.2.2⟩]) (Px := fun r0 => ((streamL key 1#32 nonce (xs.take k)).map U8 ++ r0.2.2).length = r0.2.1) (vs := [_, U32 1#32, _, _]) (args4 rfl rfl rfl rfl) Tryd.call16 rfl (fun w1 hw => stream_any p k c key 1#32 nonce (xs.take k) w1 hk hn (hb.now hw) (by omega) ((RdP.old hq0 (fun _ _ => by simp)).now hw)) fun z hz => ?_)
  refine Tr.pOn (by first | exact List.Sublist.refl _ | exact List.sublist_cons_self _ _ | exact List.sublist_append_right _ _ | simp) ?_
  refine TrP.softG rfl rfl (V.bytesStr Tryd.runUnderlying27 Tryd.runUnderlying9 Tryd.runUnderlying5 rfl (xs := (streamL key 1#32 nonce (xs.take k))) (RdP.headL (by repeat (first | exact List.Mem.head _ | apply List.Mem.tail))) (by rw [streamL_len]; exact hbl)) rfl ?_
  refine TrP.pureG rfl rfl (fun _ => V.eqlS (b := true) rfl rfl (by rw [hst]; exact bstr_same _)) rfl ?_
  refine TrP.pure rfl (fun _ => V.pick rfl rfl) rfl ?_
  refine TrP.pure rfl (fun _ => V.assign rfl) rfl ?_
  refine TrP.done ?_
  refine Tr.thenN ?_
  refine Tr.ret ?_
  refine Tr.out1 rfl (Res.tmp rfl) fun w hw => ?_
  exact ⟨rfl, hw.sub (List.nil_sublist _)⟩

theorem aeadStream_walk (x0 : List (BitVec 8)) (x1 : List (BitVec 8)) (a2 : Option Addr) (len2 cap2 : Nat) (z2 : List Int) (w : World) (l0 : x0.length = 32) (l1 : x1.length = 12) (w2 : IsRow .u8 w a2 len2 cap2 z2) (hq0 : RdB w (some ⟨0, 0, none⟩) (qflat.map NV)) :
    Calls Tryd.prog 11 #[.agg (x0.map U8).toArray, .agg (x1.map U8).toArray, .slice a2 len2 cap2] w fun r w' => r = .returned (.bool true) ∧ Hp w [] [] w' := by
  obtain ⟨xs, hx⟩ := w2.bytes
  exact aeadStream_run a2 len2 cap2 x0 x1 xs w l0 l1 hx hq0
namespace aeadStream
open Go.ChangeShapes Go.WideShapes Go.ChangeAt Go.RowKit Go.Sym
theorem own : ownKnob Tryd.prog.godebug = none := by kernel_rfl
theorem laidOut : laidOutB Tryd.prog = true := by kernel_rfl
set_option maxRecDepth 100000 in
theorem lifted (os : Os) (started : os.Started) (H : Type) (enc : TypeId × Value → H) :
    ReturnsInHanded {} Tryd.checked os 11 .any (fun w args => (Rows.aeadStreamSpec.pre enc Tryd.prog Tryd.f11 [] false w args ∧ laidMetH Tryd.prog laidQ w) ∧ sizedMet enc Tryd.prog Tryd.f11 (OpenSpec.ofChange Rows.aeadStreamSpec) false w args) (Rows.aeadStreamSpec.post enc Tryd.prog Tryd.f11 false true false false) := by
  refine returnsInHanded_of_change_and (C := Tryd.checked) (X := fun w _ => laidMetH Tryd.prog laidQ w) (fun _ _ _ hh h => h.of_heap hh) own started (by kernel_rfl) Tryd.func11
    (ChangeSpec.witness_shaped (enc := enc) (C := Tryd.checked) (os := os) (X := fun w _ => laidMetH Tryd.prog laidQ w) false (World.doorLaid Tryd.prog 22 os) #[.agg #[.int .u8 0, .int .u8 0, .int .u8 0, .int .u8 0, .int .u8 0, .int .u8 0, .int .u8 0, .int .u8 0, .int .u8 0, .int .u8 0, .int .u8 0, .int .u8 0, .int .u8 0, .int .u8 0, .int .u8 0, .int .u8 0, .int .u8 0, .int .u8 0, .int .u8 0, .int .u8 0, .int .u8 0, .int .u8 0, .int .u8 0, .int .u8 0, .int .u8 0, .int .u8 0, .int .u8 0, .int .u8 0, .int .u8 0, .int .u8 0, .int .u8 0, .int .u8 0], .agg #[.int .u8 0, .int .u8 0, .int .u8 0, .int .u8 0, .int .u8 0, .int .u8 0, .int .u8 0, .int .u8 0, .int .u8 0, .int .u8 0, .int .u8 0, .int .u8 0], .slice none 0 0] 8 rfl (World.shaped_of_RefB (by kernel_rfl) (by kernel_rfl)) (by kernel_rfl) (by kernel_rfl) (by kernel_rfl) (door_met os _)) ?_
  intro W base args ds gs before hval0 hW _ _ hL _
  have hval : ∀ (j : Nat) t v, Tryd.f11.params[j]? = some t → args[j]? = some v → Value.okWide Tryd.prog W .any base t v := hval0
  have hW' := hW
  obtain ⟨p, q, hA0, hV, rfl, hfz, hnd⟩ := hW
  have hA : DataW.TrodAll enc Tryd.prog W 0 (fun _ => true) true Tryd.f11.params.toList args.toList ds p := hA0
  rw [Tryd.params11] at hA hval
  obtain ⟨v0, vs0, d0, ds0, p0, q0, hargs, rfl, rfl, h0, r0⟩ := trodAll_cons hA
  obtain ⟨v1, vs1, d1, ds1, p1, q1, rfl, rfl, rfl, h1, r1⟩ := trodAll_cons r0
  obtain ⟨v2, vs2, d2, ds2, p2, q2, rfl, rfl, rfl, h2, r2⟩ := trodAll_cons r1
  obtain ⟨rfl, rfl, rfl⟩ := trodAll_nil r2
  obtain rfl : args = #[v0, v1, v2] := by cases args; simp_all
  obtain ⟨rfl, rfl⟩ := trodVars_none hV
  have k0 := h0
  have lt0 : ∀ x ∈ p0, x.block < W.heap.size := by obtain ⟨m, hm⟩ := k0; exact DataW.trod_lt m _ _ _ hm
  obtain ⟨x0, l0, rfl⟩ := open_bytesArr Tryd.underlying23 Tryd.underlying5 (by kernel_rfl) (by kernel_rfl) (hval 0 23 v0 rfl rfl) h0
  have k1 := h1
  have lt1 : ∀ x ∈ p1, x.block < W.heap.size := by obtain ⟨m, hm⟩ := k1; exact DataW.trod_lt m _ _ _ hm
  obtain ⟨x1, l1, rfl⟩ := open_bytesArr Tryd.underlying26 Tryd.underlying5 (by kernel_rfl) (by kernel_rfl) (hval 1 26 v1 rfl rfl) h1
  obtain ⟨a2, len2, cap2, rfl⟩ := okWide_slice Tryd.underlying27 (hval 2 27 v2 rfl rfl)
  have k2 := h2
  have lt2 : ∀ x ∈ p2, x.block < W.heap.size := by obtain ⟨m, hm⟩ := k2; exact DataW.trod_lt m _ _ _ hm
  obtain ⟨z2, w2⟩ : ∃ zs, IsRow .u8 W a2 len2 cap2 zs := by
    obtain ⟨fuel, hf⟩ := h2
    rcases open_ints Tryd.underlying27 Tryd.underlying5 (by kernel_rfl) hf with ⟨hcs, _⟩ | ⟨x, l, c, zs, hcs, _, hl, hm, hz, _, hcell, hwz⟩
    · simp [Value.cells] at hcs
      obtain ⟨rfl, rfl, rfl⟩ := hcs
      exact ⟨[], .inl ⟨rfl, rfl, rfl, rfl⟩⟩
    · simp [Value.cells] at hcs
      obtain ⟨rfl, rfl, rfl⟩ := hcs
      exact ⟨zs, .inr ⟨_, rfl, hl, hm, by simpa using hz, hcell, hwz⟩⟩
  clear hA0 hval0
  refine (aeadStream_walk x0 x1 a2 len2 cap2 z2 W l0 l1 w2 (of_laid hL)).mono fun e W' ⟨he, hp⟩ => ?_
  have bel : Below W.heap.size W W' := hp.below
  subst he
  exact ⟨_, rfl, _, _, _, [], _, [], hW', trodAll_mk1 (shut_bool Tryd.underlying4 _), (trodAll_cons_mk (Below.trod laidOut (by kernel_rfl) (of_decide_eq_true (by kernel_rfl)) k0 bel lt0) (trodAll_cons_mk (Below.trod laidOut (by kernel_rfl) (of_decide_eq_true (by kernel_rfl)) k1 bel lt1) (trodAll_cons_mk (Below.trod laidOut (by kernel_rfl) (of_decide_eq_true (by kernel_rfl)) k2 bel lt2) trodAll_mk0))), rfl, bel.frame _, fun h => by cases h⟩
theorem over : Rows.aeadStreamRow.holds Tryd.pinned (OpenSpec.ofChange Rows.aeadStreamSpec) :=
  OpenClaim.holds_of_wide 11 Tryd.f11 rfl rfl rfl rfl rfl rfl rfl ⟨rfl, rfl, rfl, rfl, rfl⟩ rfl rfl rfl rfl rfl (by kernel_rfl) Tryd.func11 (by kernel_rfl)
    (of_decide_eq_true (by kernel_rfl)) (by unfold Func.isWrapper; first | (rw [if_pos (by decide +kernel)]; kernel_rfl) | (rw [if_neg (by decide +kernel)]; exact ⟨rfl, rfl⟩))
    (fun os started H enc _ => lifted os started H enc)
end aeadStream
/-- The statement. -/
theorem aeadStreamProved : Rows.AeadStreamCardSaid :=
  Claim7.holds_tied_plain_at .later [] [.data] true (true, "3370d27d9255588c3956976426ca7d2b61d4b9f8ebcd526ac9795ba27740e44b") false
    aeadStream.over (fun _ h => by cases h) (by kernel_rfl) (fun _ h => by cases h) aeadStream_row_tie rfl ⟨rfl, rfl⟩ (by kernel_rfl) rfl
    (fun f fn hf hfn => by
      obtain rfl : f = 11 := Option.some.inj ((show Tryd.prog.funcNamed "hatchway/hatchwaylaw04.AeadStream" = some 11 by kernel_rfl).symm.trans hf) |>.symm
      obtain rfl : fn = Tryd.f11 := (Option.some.inj (Tryd.func11.symm.trans hfn)).symm
      exact ⟨by kernel_rfl, fun j t ht => by
        rw [Tryd.params11] at ht
        have hm : t ∈ [23, 26, 27] := by simpa using Array.mem_of_getElem? ht
        have hall : ([23, 26, 27].all fun u => !Tryd.prog.wantsStandIn u) = true := by kernel_rfl
        exact (show Tryd.prog.wantsStandIn t = false by simpa using List.all_eq_true.1 hall t hm)⟩)
    (by kernel_rfl)
end Go.Proofs.YtnhfmmohdiccgaaDoor
