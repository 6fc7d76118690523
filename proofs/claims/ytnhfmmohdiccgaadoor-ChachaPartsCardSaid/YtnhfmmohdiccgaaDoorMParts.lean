/-
  hatchwaylaw02.ChachaParts returns true, whatever its arguments. (Printed by a program of this session over its walk printer.)
-/
import Derived.Test.YtnhfmmohdiccgaaDoorCards
import Derived.Test.YtnhfmmohdiccgaaDoorTie
import Derived.Test.YtnhfmmohdiccgaaDoorLaw2
import Derived.Test.YtnhfmmohdiccgaaDoorLaid
namespace Go.Proofs.YtnhfmmohdiccgaaDoor
open Go.Sym Plain
set_option linter.unusedVariables false

theorem chachaParts_run (p : Option Addr) (m c : Nat) (i : Int) (key : List (BitVec 8)) (ctr : BitVec 32) (nonce xs : List (BitVec 8)) (w : World) (hk : key.length = 32) (hn : nonce.length = 12) (hx : Bytes w p m c xs) (hq0 : RdB w (some ⟨0, 0, none⟩) (qflat.map NV)) :
    Calls Tryd.prog 5 [.agg (key.map U8).toArray, U32 ctr, .agg (nonce.map U8).toArray, .slice p m c, .int .i64 i].toArray w fun r w' => r = .returned (.bool true) ∧ Hp w [] [] w' := by
  obtain ⟨k, hkk⟩ : ∃ k, k = Nat.min m 600 := ⟨_, rfl⟩
  have hk1 : k ≤ m := by rw [hkk]; exact Nat.min_le_left _ _
  have hk2 : k ≤ 600 := by rw [hkk]; exact Nat.min_le_right _ _
  have hb := hx.part hk1
  have hle := hx.le
  have hmx := hx.max
  have hbl := hb.length
  obtain ⟨e, he⟩ : ∃ e : Nat, i % (2 ^ 16 : Nat) = (e : Int) := ⟨(i % (2 ^ 16 : Nat)).toNat, by omega⟩
  obtain ⟨nn, hnn⟩ : ∃ nn, nn = e % 10 := ⟨_, rfl⟩
  obtain ⟨q, hq⟩ : ∃ q, q = Nat.min (64 * nn) k := ⟨_, rfl⟩
  have hqk : q ≤ k := by rw [hq]; exact Nat.min_le_right _ _
  have hb2 := hb.part hqk
  have hb3 := hb.drop q hqk
  have hst := stream_parts key nonce ctr (xs.take k) nn q (by rw [hbl]; exact hq)
  refine Tr.enter Tryd.func5 rfl Tryd.ntmps5 rfl (Hp.refl w) ?_
  refine Tr.seq ?_
  refine Tr.region ?_
  refine Tr.op (W.box (cs := key.map U8) rfl rfl rfl fun g5 => ?_)
  refine Tr.op (W.box (cs := nonce.map U8) rfl rfl rfl fun g7 => ?_)
  refine Tr.val (V.assign rfl) rfl ?_
  refine Tr.lNil ?_
  refine Tr.thenN ?_
  refine Tr.seq ?_
  refine Tr.region ?_
  refine Tr.op (W.call1 (args0) Tryd.call14 rfl (fun w1 hw => shown2_true w1 ((RdP.old hq0 (fun _ _ => by simp)).now hw)) ?_)
  refine Tr.val (V.assign rfl) rfl ?_
  refine Tr.lNil ?_
  refine Tr.thenN ?_
  refine Tr.seq ?_
  refine Tr.region ?_
  refine Tr.val (V.move rfl) rfl ?_
  refine Tr.val (V.move rfl) rfl ?_
  refine Tr.val (V.len Tryd.runUnderlying27 rfl) rfl ?_
  refine Tr.val ((by rw [hkk]; exact V.minN (b := 600) rfl rfl : VOp Tryd.prog _ _ _ _ _ _ _ (.int .i64 (k : Int)))) rfl ?_
  refine Tr.val (V.cut Tryd.runUnderlying27 Tryd.sizeOf5 rfl rfl (by omega)) rfl ?_
  refine Tr.val (V.assign rfl) rfl ?_
  refine Tr.lNil ?_
  refine Tr.thenN ?_
  refine Tr.seq ?_
  refine Tr.region ?_
  refine Tr.val (V.move rfl) rfl ?_
  refine Tr.val ((by rw [← he]; exact V.mask (k := 16) rfl rfl (by decide) : VOp Tryd.prog _ _ _ _ _ _ _ (.int .i64 (e : Int)))) rfl ?_
  refine Tr.val ((by rw [hnn]; exact V.remN (b := 10) rfl rfl (by omega) : VOp Tryd.prog _ _ _ _ _ _ _ (NV nn))) rfl ?_
  refine Tr.val (V.assign rfl) rfl ?_
  refine Tr.lNil ?_
  refine Tr.thenN ?_
  refine Tr.seq ?_
  refine Tr.region ?_
  refine Tr.val (V.move rfl) rfl ?_
  refine Tr.val (V.mulN (a := 64) rfl rfl (by omega)) rfl ?_
  refine Tr.val (V.move rfl) rfl ?_
  refine Tr.val (V.len Tryd.runUnderlying27 rfl) rfl ?_
  refine Tr.val ((by rw [hq]; exact V.minN rfl rfl : VOp Tryd.prog _ _ _ _ _ _ _ (NV q))) rfl ?_
  refine Tr.val (V.assign rfl) rfl ?_
  refine Tr.lNil ?_
  refine Tr.thenN ?_
  refine Tr.seq ?_
  refine Tr.region ?_
  refine Tr.val (V.loadN (cs := key.map U8) Tryd.isAgg23 (by rw [List.length_map, hk]; exact Tryd.sizeOf23) rfl (V.cellsB (by repeat (first | exact List.Mem.head _ | apply List.Mem.tail)))) rfl ?_
  refine Tr.val (V.move rfl) rfl ?_
  refine Tr.val (V.loadN (cs := nonce.map U8) Tryd.isAgg26 (by rw [List.length_map, hn]; exact Tryd.sizeOf26) rfl (V.cellsB (by repeat (first | exact List.Mem.head _ | apply List.Mem.tail)))) rfl ?_
  refine Tr.val (V.move rfl) rfl ?_
  refine Tr.op (W.call (val := fun x : Nat × Nat × List Value => .slice (some ⟨x.1, 0, none⟩) k x.2.1) (N := fun x => [⟨x.1, 5, (streamL key ctr nonce (xs.take k)).map U8 ++ x.2.2⟩]) (Px := fun x => ((streamL key ctr nonce (xs.take k)).map U8 ++ x.2.2).length = x.2.1)  (args4 rfl rfl rfl rfl) Tryd.call16 rfl (fun w1 hw => stream_any p k c key ctr nonce (xs.take k) w1 hk hn (hb.now hw) (by omega) ((RdP.old hq0 (fun _ _ => by simp)).now hw)) fun y hy => ?_)
  refine Tr.val (V.assign rfl) rfl ?_
  refine Tr.lNil ?_
  refine Tr.thenN ?_
  refine Tr.seq ?_
  refine Tr.regionD [0, 0, 0, 0, 0, 24, 63, 127] [] (.soft 0 (.pure 1 (.soft 2 (.pure 3 (.pure 4 (.pure 5 (.hard 6 (.pure 7 .done)))))))) mixed (by kernel_rfl) ?_
  refine TrP.soft rfl (V.loadN (cs := key.map U8) Tryd.isAgg23 (by rw [List.length_map, hk]; exact Tryd.sizeOf23) rfl (V.cellsB (by repeat (first | exact List.Mem.head _ | apply List.Mem.tail)))) rfl ?_
  refine TrP.pure rfl (fun _ => V.move rfl) rfl ?_
  refine TrP.soft rfl (V.loadN (cs := nonce.map U8) Tryd.isAgg26 (by rw [List.length_map, hn]; exact Tryd.sizeOf26) rfl (V.cellsB (by repeat (first | exact List.Mem.head _ | apply List.Mem.tail)))) rfl ?_
  refine TrP.pure rfl (fun _ => V.move rfl) rfl ?_
  refine TrP.pure rfl (fun _ => V.move rfl) rfl ?_
  refine TrP.pure rfl (fun _ => V.cut Tryd.runUnderlying27 Tryd.sizeOf5 rfl rfl (by omega)) rfl ?_
  refine TrP.hard rfl (W.call (val := fun x : Nat × Nat × List Value => .slice (some ⟨x.1, 0, none⟩) q x.2.1) (N := fun x => [⟨x.1, 5, (streamL key ctr nonce ((xs.take k).take q)).map U8 ++ x.2.2⟩]) (Px := fun x => ((streamL key ctr nonce ((xs.take k).take q)).map U8 ++ x.2.2).length = x.2.1)  (args4 rfl rfl rfl rfl) Tryd.call16 rfl (fun w1 hw => stream_any p q c key ctr nonce ((xs.take k).take q) w1 hk hn (hb2.now hw) (by omega) ((RdP.old hq0 (fun _ _ => by simp)).now hw)) fun z hz => ?_)
  refine Tr.pOn (by first | exact List.Sublist.refl _ | exact List.sublist_cons_self _ _ | exact List.sublist_append_right _ _ | simp) ?_
  refine TrP.pure rfl (fun _ => V.assign rfl) rfl ?_
  refine TrP.done ?_
  refine Tr.thenN ?_
  refine Tr.seq ?_
  refine Tr.regionD [0, 0, 0, 4, 14, 0, 0, 0, 192, 511, 1023] [] (.soft 0 (.pure 1 (.pure 2 (.pure 3 (.pure 4 (.soft 5 (.pure 6 (.pure 7 (.pure 8 (.hard 9 (.pure 10 .done))))))))))) mixed (by kernel_rfl) ?_
  refine TrP.soft rfl (V.loadN (cs := key.map U8) Tryd.isAgg23 (by rw [List.length_map, hk]; exact Tryd.sizeOf23) rfl (V.cellsB (by repeat (first | exact List.Mem.head _ | apply List.Mem.tail)))) rfl ?_
  refine TrP.pure rfl (fun _ => V.move rfl) rfl ?_
  refine TrP.pure rfl (fun _ => V.move rfl) rfl ?_
  refine TrP.pure rfl (fun _ => V.convN_32 (a := nn) Tryd.runUnderlying3 Tryd.runUnderlying24 rfl) rfl ?_
  refine TrP.pure rfl (fun _ => V.add32 rfl rfl) rfl ?_
  refine TrP.soft rfl (V.loadN (cs := nonce.map U8) Tryd.isAgg26 (by rw [List.length_map, hn]; exact Tryd.sizeOf26) rfl (V.cellsB (by repeat (first | exact List.Mem.head _ | apply List.Mem.tail)))) rfl ?_
  refine TrP.pure rfl (fun _ => V.move rfl) rfl ?_
  refine TrP.pure rfl (fun _ => V.move rfl) rfl ?_
  refine TrP.pure rfl (fun _ => V.sliceS (l := q) Tryd.runUnderlying27 Tryd.sizeOf5 rfl rfl rfl rfl rfl (by omega) (by omega)) rfl ?_
  refine TrP.hard rfl (W.call (val := fun x : Nat × Nat × List Value => .slice (some ⟨x.1, 0, none⟩) (k - q) x.2.1) (N := fun x => [⟨x.1, 5, (streamL key (ctr + BitVec.ofNat 32 nn) nonce ((xs.take k).drop q)).map U8 ++ x.2.2⟩]) (Px := fun x => ((streamL key (ctr + BitVec.ofNat 32 nn) nonce ((xs.take k).drop q)).map U8 ++ x.2.2).length = x.2.1)  (args4 rfl rfl rfl rfl) Tryd.call16 rfl (fun w1 hw => stream_any (if c = q then p else p.map (·.add q)) (k - q) (c - q) key (ctr + BitVec.ofNat 32 nn) nonce ((xs.take k).drop q) w1 hk hn (hb3.now hw) (by omega) ((RdP.old hq0 (fun _ _ => by simp)).now hw)) fun u hu => ?_)
  refine Tr.pOn (by first | exact List.Sublist.refl _ | exact List.sublist_cons_self _ _ | exact List.sublist_append_right _ _ | simp) ?_
  refine TrP.pure rfl (fun _ => V.assign rfl) rfl ?_
  refine TrP.done ?_
  refine Tr.thenN ?_
  refine Tr.seq ?_
  refine Tr.region ?_
  refine Tr.val (V.move rfl) rfl ?_
  refine Tr.val (V.move rfl) rfl ?_
  refine Tr.valG rfl (V.move rfl) rfl ?_
  refine Tr.valG rfl (V.bytesStr Tryd.runUnderlying27 Tryd.runUnderlying9 Tryd.runUnderlying5 rfl (xs := (streamL key ctr nonce (xs.take k))) (RdP.headL (by repeat (first | exact List.Mem.head _ | apply List.Mem.tail))) (by rw [streamL_len]; exact hbl)) rfl ?_
  refine Tr.valG rfl (V.move rfl) rfl ?_
  refine Tr.valG rfl (V.bytesStr Tryd.runUnderlying27 Tryd.runUnderlying9 Tryd.runUnderlying5 rfl (xs := (streamL key ctr nonce ((xs.take k).take q))) (RdP.headL (by repeat (first | exact List.Mem.head _ | apply List.Mem.tail))) (by rw [streamL_len]; exact hb2.length)) rfl ?_
  refine Tr.valG rfl (V.move rfl) rfl ?_
  refine Tr.valG rfl (V.bytesStr Tryd.runUnderlying27 Tryd.runUnderlying9 Tryd.runUnderlying5 rfl (xs := (streamL key (ctr + BitVec.ofNat 32 nn) nonce ((xs.take k).drop q))) (RdP.headL (by repeat (first | exact List.Mem.head _ | apply List.Mem.tail))) (by rw [streamL_len]; exact hb3.length)) rfl ?_
  refine Tr.valG rfl (V.addS rfl rfl (by rw [streamL_len, streamL_len, hb2.length, hb3.length]; omega)) rfl ?_
  refine Tr.valG rfl (V.eqlS (b := true) rfl rfl (by rw [← hst]; exact bstr_same _)) rfl ?_
  refine Tr.val (V.pick rfl rfl) rfl ?_
  refine Tr.val (V.assign rfl) rfl ?_
  refine Tr.lNil ?_
  refine Tr.thenN ?_
  refine Tr.ret ?_
  refine Tr.out1 rfl (Res.tmp rfl) fun w hw => ?_
  exact ⟨rfl, hw.sub (List.nil_sublist _)⟩

theorem chachaParts_walk (x0 : List (BitVec 8)) (a1 : Int) (x2 : List (BitVec 8)) (a3 : Option Addr) (len3 cap3 : Nat) (z3 : List Int) (a4 : Int) (w : World) (l0 : x0.length = 32) (w1 : (Lit.int .u32 a1).wf = true) (l2 : x2.length = 12) (w3 : IsRow .u8 w a3 len3 cap3 z3) (w4 : (Lit.int .i64 a4).wf = true) (hq0 : RdB w (some ⟨0, 0, none⟩) (qflat.map NV)) :
    Calls Tryd.prog 5 #[.agg (x0.map U8).toArray, .int .u32 a1, .agg (x2.map U8).toArray, .slice a3 len3 cap3, .int .i64 a4] w fun r w' => r = .returned (.bool true) ∧ Hp w [] [] w' := by
  obtain ⟨X, rfl⟩ := wf32 w1
  obtain ⟨xs, hx⟩ := w3.bytes
  exact chachaParts_run a3 len3 cap3 a4 x0 X x2 xs w l0 l2 hx hq0
namespace chachaParts
open Go.ChangeShapes Go.WideShapes Go.ChangeAt Go.RowKit Go.Sym
theorem own : ownKnob Tryd.prog.godebug = none := by kernel_rfl
theorem laidOut : laidOutB Tryd.prog = true := by kernel_rfl
set_option maxRecDepth 100000 in
theorem lifted (os : Os) (started : os.Started) (H : Type) (enc : TypeId × Value → H) :
    ReturnsInHanded {} Tryd.checked os 5 .any (fun w args => (Rows.chachaPartsSpec.pre enc Tryd.prog Tryd.f5 [] false w args ∧ laidMetH Tryd.prog laidQ w) ∧ sizedMet enc Tryd.prog Tryd.f5 (OpenSpec.ofChange Rows.chachaPartsSpec) false w args) (Rows.chachaPartsSpec.post enc Tryd.prog Tryd.f5 false true false false) := by
  refine returnsInHanded_of_change_and (C := Tryd.checked) (X := fun w _ => laidMetH Tryd.prog laidQ w) (fun _ _ _ hh h => h.of_heap hh) own started (by kernel_rfl) Tryd.func5
    (ChangeSpec.witness_shaped (enc := enc) (C := Tryd.checked) (os := os) (X := fun w _ => laidMetH Tryd.prog laidQ w) false (World.doorLaid Tryd.prog 22 os) #[.agg #[.int .u8 0, .int .u8 0, .int .u8 0, .int .u8 0, .int .u8 0, .int .u8 0, .int .u8 0, .int .u8 0, .int .u8 0, .int .u8 0, .int .u8 0, .int .u8 0, .int .u8 0, .int .u8 0, .int .u8 0, .int .u8 0, .int .u8 0, .int .u8 0, .int .u8 0, .int .u8 0, .int .u8 0, .int .u8 0, .int .u8 0, .int .u8 0, .int .u8 0, .int .u8 0, .int .u8 0, .int .u8 0, .int .u8 0, .int .u8 0, .int .u8 0, .int .u8 0], .int .u32 0, .agg #[.int .u8 0, .int .u8 0, .int .u8 0, .int .u8 0, .int .u8 0, .int .u8 0, .int .u8 0, .int .u8 0, .int .u8 0, .int .u8 0, .int .u8 0, .int .u8 0], .slice none 0 0, .int .i64 0] 8 rfl (World.shaped_of_RefB (by kernel_rfl) (by kernel_rfl)) (by kernel_rfl) (by kernel_rfl) (by kernel_rfl) (door_met os _)) ?_
  intro W base args ds gs before hval0 hW _ _ hL _
  have hval : ∀ (j : Nat) t v, Tryd.f5.params[j]? = some t → args[j]? = some v → Value.okWide Tryd.prog W .any base t v := hval0
  have hW' := hW
  obtain ⟨p, q, hA0, hV, rfl, hfz, hnd⟩ := hW
  have hA : DataW.TrodAll enc Tryd.prog W 0 (fun _ => true) true Tryd.f5.params.toList args.toList ds p := hA0
  rw [Tryd.params5] at hA hval
  obtain ⟨v0, vs0, d0, ds0, p0, q0, hargs, rfl, rfl, h0, r0⟩ := trodAll_cons hA
  obtain ⟨v1, vs1, d1, ds1, p1, q1, rfl, rfl, rfl, h1, r1⟩ := trodAll_cons r0
  obtain ⟨v2, vs2, d2, ds2, p2, q2, rfl, rfl, rfl, h2, r2⟩ := trodAll_cons r1
  obtain ⟨v3, vs3, d3, ds3, p3, q3, rfl, rfl, rfl, h3, r3⟩ := trodAll_cons r2
  obtain ⟨v4, vs4, d4, ds4, p4, q4, rfl, rfl, rfl, h4, r4⟩ := trodAll_cons r3
  obtain ⟨rfl, rfl, rfl⟩ := trodAll_nil r4
  obtain rfl : args = #[v0, v1, v2, v3, v4] := by cases args; simp_all
  obtain ⟨rfl, rfl⟩ := trodVars_none hV
  have k0 := h0
  have lt0 : ∀ x ∈ p0, x.block < W.heap.size := by obtain ⟨m, hm⟩ := k0; exact DataW.trod_lt m _ _ _ hm
  obtain ⟨x0, l0, rfl⟩ := open_bytesArr Tryd.underlying23 Tryd.underlying5 (by kernel_rfl) (by kernel_rfl) (hval 0 23 v0 rfl rfl) h0
  obtain ⟨a1, rfl, rfl, rfl, w1⟩ := open_int Tryd.underlying24 (hval 1 24 v1 rfl rfl) h1
  have k2 := h2
  have lt2 : ∀ x ∈ p2, x.block < W.heap.size := by obtain ⟨m, hm⟩ := k2; exact DataW.trod_lt m _ _ _ hm
  obtain ⟨x2, l2, rfl⟩ := open_bytesArr Tryd.underlying26 Tryd.underlying5 (by kernel_rfl) (by kernel_rfl) (hval 2 26 v2 rfl rfl) h2
  obtain ⟨a3, len3, cap3, rfl⟩ := okWide_slice Tryd.underlying27 (hval 3 27 v3 rfl rfl)
  have k3 := h3
  have lt3 : ∀ x ∈ p3, x.block < W.heap.size := by obtain ⟨m, hm⟩ := k3; exact DataW.trod_lt m _ _ _ hm
  obtain ⟨z3, w3⟩ : ∃ zs, IsRow .u8 W a3 len3 cap3 zs := by
    obtain ⟨fuel, hf⟩ := h3
    rcases open_ints Tryd.underlying27 Tryd.underlying5 (by kernel_rfl) hf with ⟨hcs, _⟩ | ⟨x, l, c, zs, hcs, _, hl, hm, hz, _, hcell, hwz⟩
    · simp [Value.cells] at hcs
      obtain ⟨rfl, rfl, rfl⟩ := hcs
      exact ⟨[], .inl ⟨rfl, rfl, rfl, rfl⟩⟩
    · simp [Value.cells] at hcs
      obtain ⟨rfl, rfl, rfl⟩ := hcs
      exact ⟨zs, .inr ⟨_, rfl, hl, hm, by simpa using hz, hcell, hwz⟩⟩
  obtain ⟨a4, rfl, rfl, rfl, w4⟩ := open_int Tryd.underlying3 (hval 4 3 v4 rfl rfl) h4
  clear hA0 hval0
  refine (chachaParts_walk x0 a1 x2 a3 len3 cap3 z3 a4 W l0 w1 l2 w3 w4 (of_laid hL)).mono fun e W' ⟨he, hp⟩ => ?_
  have bel : Below W.heap.size W W' := hp.below
  subst he
  exact ⟨_, rfl, _, _, _, [], _, [], hW', trodAll_mk1 (shut_bool Tryd.underlying4 _), (trodAll_cons_mk (Below.trod laidOut (by kernel_rfl) (of_decide_eq_true (by kernel_rfl)) k0 bel lt0) (trodAll_cons_mk (shut_int Tryd.underlying24 w1) (trodAll_cons_mk (Below.trod laidOut (by kernel_rfl) (of_decide_eq_true (by kernel_rfl)) k2 bel lt2) (trodAll_cons_mk (Below.trod laidOut (by kernel_rfl) (of_decide_eq_true (by kernel_rfl)) k3 bel lt3) (trodAll_cons_mk (shut_int Tryd.underlying3 w4) trodAll_mk0))))), rfl, bel.frame _, fun h => by cases h⟩
theorem over : Rows.chachaPartsRow.holds Tryd.pinned (OpenSpec.ofChange Rows.chachaPartsSpec) :=
  OpenClaim.holds_of_wide 5 Tryd.f5 rfl rfl rfl rfl rfl rfl rfl ⟨rfl, rfl, rfl, rfl, rfl⟩ rfl rfl rfl rfl rfl (by kernel_rfl) Tryd.func5 (by kernel_rfl)
    (of_decide_eq_true (by kernel_rfl)) (by unfold Func.isWrapper; first | (rw [if_pos (by decide +kernel)]; kernel_rfl) | (rw [if_neg (by decide +kernel)]; exact ⟨rfl, rfl⟩))
    (fun os started H enc _ => lifted os started H enc)
end chachaParts
/-- The statement. -/
theorem chachaPartsProved : Rows.ChachaPartsCardSaid :=
  Claim7.holds_tied_plain_at .later [] [.data] true (true, "3370d27d9255588c3956976426ca7d2b61d4b9f8ebcd526ac9795ba27740e44b") false
    chachaParts.over (fun _ h => by cases h) (by kernel_rfl) (fun _ h => by cases h) chachaParts_row_tie rfl ⟨rfl, rfl⟩ (by kernel_rfl) rfl
    (fun f fn hf hfn => by
      obtain rfl : f = 5 := Option.some.inj ((show Tryd.prog.funcNamed "hatchway/hatchwaylaw02.ChachaParts" = some 5 by kernel_rfl).symm.trans hf) |>.symm
      obtain rfl : fn = Tryd.f5 := (Option.some.inj (Tryd.func5.symm.trans hfn)).symm
      exact ⟨by kernel_rfl, fun j t ht => by
        rw [Tryd.params5] at ht
        have hm : t ∈ [23, 24, 26, 27, 3] := by simpa using Array.mem_of_getElem? ht
        have hall : ([23, 24, 26, 27, 3].all fun u => !Tryd.prog.wantsStandIn u) = true := by kernel_rfl
        exact (show Tryd.prog.wantsStandIn t = false by simpa using List.all_eq_true.1 hall t hm)⟩)
    (by kernel_rfl)
end Go.Proofs.YtnhfmmohdiccgaaDoor
