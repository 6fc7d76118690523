/-
  hatchwaylaw02.ChachaLens returns true, whatever its arguments. (Printed by a program of this session over its walk printer.)
-/
import Derived.Test.YtnhfmmohdiccgaaDoorCards
import Derived.Test.YtnhfmmohdiccgaaDoorTie
import Derived.Test.YtnhfmmohdiccgaaDoorLaw2
import Derived.Test.YtnhfmmohdiccgaaDoorLaid
namespace Go.Proofs.YtnhfmmohdiccgaaDoor
open Go.Sym Plain
set_option linter.unusedVariables false

theorem chachaLens_run (p : Option Addr) (m c : Nat) (i : Int) (key : List (BitVec 8)) (ctr : BitVec 32) (nonce xs : List (BitVec 8)) (w : World) (hk : key.length = 32) (hn : nonce.length = 12) (hx : Bytes w p m c xs) (hq0 : RdB w (some ⟨0, 0, none⟩) (qflat.map NV)) :
    Calls Tryd.prog 8 [.agg (key.map U8).toArray, U32 ctr, .agg (nonce.map U8).toArray, .slice p m c, .int .i64 i].toArray w fun r w' => r = .returned (.bool true) ∧ Hp w [] [] w' := by
  obtain ⟨k, hkk⟩ : ∃ k, k = Nat.min m 300 := ⟨_, rfl⟩
  have hk1 : k ≤ m := by rw [hkk]; exact Nat.min_le_left _ _
  have hk2 : k ≤ 300 := by rw [hkk]; exact Nat.min_le_right _ _
  have hb := hx.part hk1
  have hle := hx.le
  have hmx := hx.max
  have hbl := hb.length
  obtain ⟨e, he⟩ : ∃ e : Nat, i % (2 ^ 16 : Nat) = (e : Int) := ⟨(i % (2 ^ 16 : Nat)).toNat, by omega⟩
  obtain ⟨nn, hnn⟩ : ∃ nn, nn = e % (k + 1) := ⟨_, rfl⟩
  have hnk : nn ≤ k := by
    have := Nat.mod_lt e (show 0 < k + 1 by omega)
    omega
  have hb2 := hb.part hnk
  have hst := stream_take key nonce ctr (xs.take k) nn
  refine Tr.enter Tryd.func8 rfl Tryd.ntmps8 rfl (Hp.refl w) ?_
  refine Tr.seq ?_
  refine Tr.region ?_
  refine Tr.op (W.box (cs := key.map U8) rfl rfl rfl fun g5 => ?_)
  refine Tr.op (W.box (cs := nonce.map U8) rfl rfl rfl fun g7 => ?_)
  refine Tr.val (V.assign rfl) rfl ?_
  refine Tr.lNil ?_
  refine Tr.thenN ?_
  refine Tr.seq ?_
  refine Tr.region ?_
  refine Tr.op (W.call1 (args0) Tryd.call14 rfl (fun w1 hw => shown2_true w1 ((RdP.old hq0 (fun _ _ => by simp)).now hw)) ?_)
  refine Tr.val (V.assign rfl) rfl ?_
  refine Tr.lNil ?_
  refine Tr.thenN ?_
  refine Tr.seq ?_
  refine Tr.region ?_
  refine Tr.val (V.move rfl) rfl ?_
  refine Tr.val (V.move rfl) rfl ?_
  refine Tr.val (V.len Tryd.runUnderlying27 rfl) rfl ?_
  refine Tr.val ((by rw [hkk]; exact V.minN (b := 300) rfl rfl : VOp Tryd.prog _ _ _ _ _ _ _ (.int .i64 (k : Int)))) rfl ?_
  refine Tr.val (V.cut Tryd.runUnderlying27 Tryd.sizeOf5 rfl rfl (by omega)) rfl ?_
  refine Tr.val (V.assign rfl) rfl ?_
  refine Tr.lNil ?_
  refine Tr.thenN ?_
  refine Tr.seq ?_
  refine Tr.region ?_
  refine Tr.val (V.move rfl) rfl ?_
  refine Tr.val ((by rw [← he]; exact V.mask (k := 16) rfl rfl (by decide) : VOp Tryd.prog _ _ _ _ _ _ _ (.int .i64 (e : Int)))) rfl ?_
  refine Tr.val (V.move rfl) rfl ?_
  refine Tr.val (V.len Tryd.runUnderlying27 rfl) rfl ?_
  refine Tr.val (V.addN (b := 1) rfl rfl (by omega)) rfl ?_
  refine Tr.val ((by rw [hnn]; exact V.remN rfl rfl (by omega) : VOp Tryd.prog _ _ _ _ _ _ _ (NV nn))) rfl ?_
  refine Tr.val (V.assign rfl) rfl ?_
  refine Tr.lNil ?_
  refine Tr.thenN ?_
  refine Tr.seq ?_
  refine Tr.region ?_
  refine Tr.val (V.loadN (cs := key.map U8) Tryd.isAgg23 (by rw [List.length_map, hk]; exact Tryd.sizeOf23) rfl (V.cellsB (by repeat (first | exact List.Mem.head _ | apply List.Mem.tail)))) rfl ?_
  refine Tr.val (V.move rfl) rfl ?_
  refine Tr.val (V.loadN (cs := nonce.map U8) Tryd.isAgg26 (by rw [List.length_map, hn]; exact Tryd.sizeOf26) rfl (V.cellsB (by repeat (first | exact List.Mem.head _ | apply List.Mem.tail)))) rfl ?_
  refine Tr.val (V.move rfl) rfl ?_
  refine Tr.op (W.call (val := fun x : Nat × Nat × List Value => .slice (some ⟨x.1, 0, none⟩) k x.2.1) (N := fun x => [⟨x.1, 5, (streamL key ctr nonce (xs.take k)).map U8 ++ x.2.2⟩]) (Px := fun x => ((streamL key ctr nonce (xs.take k)).map U8 ++ x.2.2).length = x.2.1)  (args4 rfl rfl rfl rfl) Tryd.call16 rfl (fun w1 hw => stream_any p k c key ctr nonce (xs.take k) w1 hk hn (hb.now hw) (by omega) ((RdP.old hq0 (fun _ _ => by simp)).now hw)) fun y hy => ?_)
  have hcap : nn ≤ y.2.1 := by rw [← hy, List.length_append, List.length_map, streamL_len, hbl]; omega
  refine Tr.val (V.assign rfl) rfl ?_
  refine Tr.lNil ?_
  refine Tr.thenN ?_
  refine Tr.seq ?_
  refine Tr.regionD [0, 0, 0, 0, 0, 24, 63, 127] [] (.soft 0 (.pure 1 (.soft 2 (.pure 3 (.pure 4 (.pure 5 (.hard 6 (.pure 7 .done)))))))) mixed (by kernel_rfl) ?_
  refine TrP.soft rfl (V.loadN (cs := key.map U8) Tryd.isAgg23 (by rw [List.length_map, hk]; exact Tryd.sizeOf23) rfl (V.cellsB (by repeat (first | exact List.Mem.head _ | apply List.Mem.tail)))) rfl ?_
  refine TrP.pure rfl (fun _ => V.move rfl) rfl ?_
  refine TrP.soft rfl (V.loadN (cs := nonce.map U8) Tryd.isAgg26 (by rw [List.length_map, hn]; exact Tryd.sizeOf26) rfl (V.cellsB (by repeat (first | exact List.Mem.head _ | apply List.Mem.tail)))) rfl ?_
  refine TrP.pure rfl (fun _ => V.move rfl) rfl ?_
  refine TrP.pure rfl (fun _ => V.move rfl) rfl ?_
  refine TrP.pure rfl (fun _ => V.cut Tryd.runUnderlying27 Tryd.sizeOf5 rfl rfl (by omega)) rfl ?_
  refine TrP.hard rfl (W.call (val := fun x : Nat × Nat × List Value => .slice (some ⟨x.1, 0, none⟩) nn x.2.1) (N := fun x => [⟨x.1, 5, (streamL key ctr nonce ((xs.take k).take nn)).map U8 ++ x.2.2⟩]) (Px := fun x => ((streamL key ctr nonce ((xs.take k).take nn)).map U8 ++ x.2.2).length = x.2.1)  (args4 rfl rfl rfl rfl) Tryd.call16 rfl (fun w1 hw => stream_any p nn c key ctr nonce ((xs.take k).take nn) w1 hk hn (hb2.now hw) (by omega) ((RdP.old hq0 (fun _ _ => by simp)).now hw)) fun z hz => ?_)
  refine Tr.pOn (by first | exact List.Sublist.refl _ | exact List.sublist_cons_self _ _ | exact List.sublist_append_right _ _ | simp) ?_
  refine TrP.pure rfl (fun _ => V.assign rfl) rfl ?_
  refine TrP.done ?_
  refine Tr.thenN ?_
  refine Tr.seq ?_
  refine Tr.regionD [0, 1, 3, 7, 3, 19, 63, 127, 255, 511, 1023, 511, 4095, 8191, 16383, 32767, 32767, 131071, 262143, 32767, 557055, 2097151, 4194303, 8388607] [] (.pure 0 (.pure 1 (.pure 2 (.pure 3 (.pure 4 (.pure 5 (.pure 6 (.pure 7 (.pure 8 (.pure 9 (.pure 10 (.pure 11 (.pure 12 (.pure 13 (.pure 14 (.pure 15 (.pure 16 (.pure 17 (.soft 18 (.pure 19 (.soft 20 (.pure 21 (.pure 22 (.pure 23 .done)))))))))))))))))))))))) mixed (by kernel_rfl) ?_
  refine TrP.pure rfl (fun _ => V.move rfl) rfl ?_
  refine TrP.pure rfl (fun _ => V.move rfl) rfl ?_
  refine TrP.pureG rfl rfl (fun _ => V.move rfl) rfl ?_
  refine TrP.pureG rfl rfl (fun _ => V.len Tryd.runUnderlying27 rfl) rfl ?_
  refine TrP.pureG rfl rfl (fun _ => V.move rfl) rfl ?_
  refine TrP.pureG rfl rfl (fun _ => V.len Tryd.runUnderlying27 rfl) rfl ?_
  refine TrP.pureG rfl rfl (fun _ => V.eql (b := true) rfl rfl (decide_eq_true rfl)) rfl ?_
  refine TrP.pure rfl (fun _ => V.pick rfl rfl) rfl ?_
  refine TrP.pure rfl (fun _ => V.move rfl) rfl ?_
  refine TrP.pureG rfl rfl (fun _ => V.move rfl) rfl ?_
  refine TrP.pureG rfl rfl (fun _ => V.len Tryd.runUnderlying27 rfl) rfl ?_
  refine TrP.pureG rfl rfl (fun _ => V.move rfl) rfl ?_
  refine TrP.pureG rfl rfl (fun _ => V.eql (b := true) rfl rfl (decide_eq_true rfl)) rfl ?_
  refine TrP.pure rfl (fun _ => V.pick rfl rfl) rfl ?_
  refine TrP.pure rfl (fun _ => V.move rfl) rfl ?_
  refine TrP.pureG rfl rfl (fun _ => V.move rfl) rfl ?_
  refine TrP.pureG rfl rfl (fun _ => V.move rfl) rfl ?_
  refine TrP.pureG rfl rfl (fun _ => V.cut Tryd.runUnderlying27 Tryd.sizeOf5 rfl rfl hcap) rfl ?_
  refine TrP.softG rfl rfl (V.bytesStr Tryd.runUnderlying27 Tryd.runUnderlying9 Tryd.runUnderlying5 rfl (xs := (streamL key ctr nonce (xs.take k)).take nn) (by rw [List.map_take]; exact (RdP.headL (by repeat (first | exact List.Mem.head _ | apply List.Mem.tail))).take nn) (by rw [List.length_take, streamL_len, hbl]; exact Nat.min_eq_left hnk)) rfl ?_
  refine TrP.pureG rfl rfl (fun _ => V.move rfl) rfl ?_
  refine TrP.softG rfl rfl (V.bytesStr Tryd.runUnderlying27 Tryd.runUnderlying9 Tryd.runUnderlying5 rfl (xs := (streamL key ctr nonce ((xs.take k).take nn))) (RdP.headL (by repeat (first | exact List.Mem.head _ | apply List.Mem.tail))) (by rw [streamL_len]; exact hb2.length)) rfl ?_
  refine TrP.pureG rfl rfl (fun _ => V.eqlS (b := true) rfl rfl (by rw [hst]; exact bstr_same _)) rfl ?_
  refine TrP.pure rfl (fun _ => V.pick rfl rfl) rfl ?_
  refine TrP.pure rfl (fun _ => V.assign rfl) rfl ?_
  refine TrP.done ?_
  refine Tr.thenN ?_
  refine Tr.ret ?_
  refine Tr.out1 rfl (Res.tmp rfl) fun w hw => ?_
  exact ⟨rfl, hw.sub (List.nil_sublist _)⟩

theorem chachaLens_walk (x0 : List (BitVec 8)) (a1 : Int) (x2 : List (BitVec 8)) (a3 : Option Addr) (len3 cap3 : Nat) (z3 : List Int) (a4 : Int) (w : World) (l0 : x0.length = 32) (w1 : (Lit.int .u32 a1).wf = true) (l2 : x2.length = 12) (w3 : IsRow .u8 w a3 len3 cap3 z3) (w4 : (Lit.int .i64 a4).wf = true) (hq0 : RdB w (some ⟨0, 0, none⟩) (qflat.map NV)) :
    Calls Tryd.prog 8 #[.agg (x0.map U8).toArray, .int .u32 a1, .agg (x2.map U8).toArray, .slice a3 len3 cap3, .int .i64 a4] w fun r w' => r = .returned (.bool true) ∧ Hp w [] [] w' := by
  obtain ⟨X, rfl⟩ := wf32 w1
  obtain ⟨xs, hx⟩ := w3.bytes
  exact chachaLens_run a3 len3 cap3 a4 x0 X x2 xs w l0 l2 hx hq0
namespace chachaLens
open Go.ChangeShapes Go.WideShapes Go.ChangeAt Go.RowKit Go.Sym
theorem own : ownKnob Tryd.prog.godebug = none := by kernel_rfl
theorem laidOut : laidOutB Tryd.prog = true := by kernel_rfl
set_option maxRecDepth 100000 in
theorem lifted (os : Os) (started : os.Started) (H : Type) (enc : TypeId × Value → H) :
    ReturnsInHanded {} Tryd.checked os 8 .any (fun w args => (Rows.chachaLensSpec.pre enc Tryd.prog Tryd.f8 [] false w args ∧ laidMetH Tryd.prog laidQ w) ∧ sizedMet enc Tryd.prog Tryd.f8 (OpenSpec.ofChange Rows.chachaLensSpec) false w args) (Rows.chachaLensSpec.post enc Tryd.prog Tryd.f8 false true false false) := by
  refine returnsInHanded_of_change_and (C := Tryd.checked) (X := fun w _ => laidMetH Tryd.prog laidQ w) (fun _ _ _ hh h => h.of_heap hh) own started (by kernel_rfl) Tryd.func8
    (ChangeSpec.witness_shaped (enc := enc) (C := Tryd.checked) (os := os) (X := fun w _ => laidMetH Tryd.prog laidQ w) false (World.doorLaid Tryd.prog 22 os) #[.agg #[.int .u8 0, .int .u8 0, .int .u8 0, .int .u8 0, .int .u8 0, .int .u8 0, .int .u8 0, .int .u8 0, .int .u8 0, .int .u8 0, .int .u8 0, .int .u8 0, .int .u8 0, .int .u8 0, .int .u8 0, .int .u8 0, .int .u8 0, .int .u8 0, .int .u8 0, .int .u8 0, .int .u8 0, .int .u8 0, .int .u8 0, .int .u8 0, .int .u8 0, .int .u8 0, .int .u8 0, .int .u8 0, .int .u8 0, .int .u8 0, .int .u8 0, .int .u8 0], .int .u32 0, .agg #[.int .u8 0, .int .u8 0, .int .u8 0, .int .u8 0, .int .u8 0, .int .u8 0, .int .u8 0, .int .u8 0, .int .u8 0, .int .u8 0, .int .u8 0, .int .u8 0], .slice none 0 0, .int .i64 0] 8 rfl (World.shaped_of_RefB (by kernel_rfl) (by kernel_rfl)) (by kernel_rfl) (by kernel_rfl) (by kernel_rfl) (door_met os _)) ?_
  intro W base args ds gs before hval0 hW _ _ hL _
  have hval : ∀ (j : Nat) t v, Tryd.f8.params[j]? = some t → args[j]? = some v → Value.okWide Tryd.prog W .any base t v := hval0
  have hW' := hW
  obtain ⟨p, q, hA0, hV, rfl, hfz, hnd⟩ := hW
  have hA : DataW.TrodAll enc Tryd.prog W 0 (fun _ => true) true Tryd.f8.params.toList args.toList ds p := hA0
  rw [Tryd.params8] at hA hval
  obtain ⟨v0, vs0, d0, ds0, p0, q0, hargs, rfl, rfl, h0, r0⟩ := trodAll_cons hA
  obtain ⟨v1, vs1, d1, ds1, p1, q1, rfl, rfl, rfl, h1, r1⟩ := trodAll_cons r0
  obtain ⟨v2, vs2, d2, ds2, p2, q2, rfl, rfl, rfl, h2, r2⟩ := trodAll_cons r1
  obtain ⟨v3, vs3, d3, ds3, p3, q3, rfl, rfl, rfl, h3, r3⟩ := trodAll_cons r2
  obtain ⟨v4, vs4, d4, ds4, p4, q4, rfl, rfl, rfl, h4, r4⟩ := trodAll_cons r3
  obtain ⟨rfl, rfl, rfl⟩ := trodAll_nil r4
  obtain rfl : args = #[v0, v1, v2, v3, v4] := by cases args; simp_all
  obtain ⟨rfl, rfl⟩ := trodVars_none hV
  have k0 := h0
  have lt0 : ∀ x ∈ p0, x.block < W.heap.size := by obtain ⟨m, hm⟩ := k0; exact DataW.trod_lt m _ _ _ hm
  obtain ⟨x0, l0, rfl⟩ := open_bytesArr Tryd.underlying23 Tryd.underlying5 (by kernel_rfl) (by kernel_rfl) (hval 0 23 v0 rfl rfl) h0
  obtain ⟨a1, rfl, rfl, rfl, w1⟩ := open_int Tryd.underlying24 (hval 1 24 v1 rfl rfl) h1
  have k2 := h2
  have lt2 : ∀ x ∈ p2, x.block < W.heap.size := by obtain ⟨m, hm⟩ := k2; exact DataW.trod_lt m _ _ _ hm
  obtain ⟨x2, l2, rfl⟩ := open_bytesArr Tryd.underlying26 Tryd.underlying5 (by kernel_rfl) (by kernel_rfl) (hval 2 26 v2 rfl rfl) h2
  obtain ⟨a3, len3, cap3, rfl⟩ := okWide_slice Tryd.underlying27 (hval 3 27 v3 rfl rfl)
  have k3 := h3
  have lt3 : ∀ x ∈ p3, x.block < W.heap.size := by obtain ⟨m, hm⟩ := k3; exact DataW.trod_lt m _ _ _ hm
  obtain ⟨z3, w3⟩ : ∃ zs, IsRow .u8 W a3 len3 cap3 zs := by
    obtain ⟨fuel, hf⟩ := h3
    rcases open_ints Tryd.underlying27 Tryd.underlying5 (by kernel_rfl) hf with ⟨hcs, _⟩ | ⟨x, l, c, zs, hcs, _, hl, hm, hz, _, hcell, hwz⟩
    · simp [Value.cells] at hcs
      obtain ⟨rfl, rfl, rfl⟩ := hcs
      exact ⟨[], .inl ⟨rfl, rfl, rfl, rfl⟩⟩
    · simp [Value.cells] at hcs
      obtain ⟨rfl, rfl, rfl⟩ := hcs
      exact ⟨zs, .inr ⟨_, rfl, hl, hm, by simpa using hz, hcell, hwz⟩⟩
  obtain ⟨a4, rfl, rfl, rfl, w4⟩ := open_int Tryd.underlying3 (hval 4 3 v4 rfl rfl) h4
  clear hA0 hval0
  refine (chachaLens_walk x0 a1 x2 a3 len3 cap3 z3 a4 W l0 w1 l2 w3 w4 (of_laid hL)).mono fun e W' ⟨he, hp⟩ => ?_
  have bel : Below W.heap.size W W' := hp.below
  subst he
  exact ⟨_, rfl, _, _, _, [], _, [], hW', trodAll_mk1 (shut_bool Tryd.underlying4 _), (trodAll_cons_mk (Below.trod laidOut (by kernel_rfl) (of_decide_eq_true (by kernel_rfl)) k0 bel lt0) (trodAll_cons_mk (shut_int Tryd.underlying24 w1) (trodAll_cons_mk (Below.trod laidOut (by kernel_rfl) (of_decide_eq_true (by kernel_rfl)) k2 bel lt2) (trodAll_cons_mk (Below.trod laidOut (by kernel_rfl) (of_decide_eq_true (by kernel_rfl)) k3 bel lt3) (trodAll_cons_mk (shut_int Tryd.underlying3 w4) trodAll_mk0))))), rfl, bel.frame _, fun h => by cases h⟩
theorem over : Rows.chachaLensRow.holds Tryd.pinned (OpenSpec.ofChange Rows.chachaLensSpec) :=
  OpenClaim.holds_of_wide 8 Tryd.f8 rfl rfl rfl rfl rfl rfl rfl ⟨rfl, rfl, rfl, rfl, rfl⟩ rfl rfl rfl rfl rfl (by kernel_rfl) Tryd.func8 (by kernel_rfl)
    (of_decide_eq_true (by kernel_rfl)) (by unfold Func.isWrapper; first | (rw [if_pos (by decide +kernel)]; kernel_rfl) | (rw [if_neg (by decide +kernel)]; exact ⟨rfl, rfl⟩))
    (fun os started H enc _ => lifted os started H enc)
end chachaLens
/-- The statement. -/
theorem chachaLensProved : Rows.ChachaLensCardSaid :=
  Claim7.holds_tied_plain_at .later [] [.data] true (true, "3370d27d9255588c3956976426ca7d2b61d4b9f8ebcd526ac9795ba27740e44b") false
    chachaLens.over (fun _ h => by cases h) (by kernel_rfl) (fun _ h => by cases h) chachaLens_row_tie rfl ⟨rfl, rfl⟩ (by kernel_rfl) rfl
    (fun f fn hf hfn => by
      obtain rfl : f = 8 := Option.some.inj ((show Tryd.prog.funcNamed "hatchway/hatchwaylaw02.ChachaLens" = some 8 by kernel_rfl).symm.trans hf) |>.symm
      obtain rfl : fn = Tryd.f8 := (Option.some.inj (Tryd.func8.symm.trans hfn)).symm
      exact ⟨by kernel_rfl, fun j t ht => by
        rw [Tryd.params8] at ht
        have hm : t ∈ [23, 24, 26, 27, 3] := by simpa using Array.mem_of_getElem? ht
        have hall : ([23, 24, 26, 27, 3].all fun u => !Tryd.prog.wantsStandIn u) = true := by kernel_rfl
        exact (show Tryd.prog.wantsStandIn t = false by simpa using List.all_eq_true.1 hall t hm)⟩)
    (by kernel_rfl)
end Go.Proofs.YtnhfmmohdiccgaaDoor
