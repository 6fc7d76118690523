/-
  hatchwaylaw04.AeadSeals returns true, whatever its arguments. (Printed by a program of this session over its walk printer.)
-/
import Derived.Test.YtnhfmmohdiccgaaDoorCards
import Derived.Test.YtnhfmmohdiccgaaDoorTie
import Derived.Test.YtnhfmmohdiccgaaDoorLaw4
import Derived.Test.YtnhfmmohdiccgaaDoorLaid
import Derived.Test.YtnhfmmohdiccgaaDoorRef4
namespace Go.Proofs.YtnhfmmohdiccgaaDoor
open Go.Sym Plain
set_option linter.unusedVariables false
set_option maxRecDepth 20000

theorem aeadSeals_run (p q : Option Addr) (m c m2 c2 : Nat) (key nonce xs ys : List (BitVec 8)) (w : World) (hk : key.length = 32) (hn : nonce.length = 12) (hx : Bytes w p m c xs) (hy2 : Bytes w q m2 c2 ys) (hq0 : RdB w (some ⟨0, 0, none⟩) (qflat.map NV)) :
    Calls Tryd.prog 9 [.agg (key.map U8).toArray, .agg (nonce.map U8).toArray, .slice p m c, .slice q m2 c2].toArray w fun r w' => r = .returned (.bool true) ∧ Hp w [] [] w' := by
  obtain ⟨k, hkk⟩ : ∃ k, k = Nat.min m 200 := ⟨_, rfl⟩
  have hk1 : k ≤ m := by rw [hkk]; exact Nat.min_le_left _ _
  have hk2 : k ≤ 200 := by rw [hkk]; exact Nat.min_le_right _ _
  obtain ⟨k2, hkk2⟩ : ∃ k, k = Nat.min m2 200 := ⟨_, rfl⟩
  have hk21 : k2 ≤ m2 := by rw [hkk2]; exact Nat.min_le_left _ _
  have hk22 : k2 ≤ 200 := by rw [hkk2]; exact Nat.min_le_right _ _
  have hb := hx.part hk1
  have hble := hx.le
  have hbmx := hx.max
  have hbl := hb.length
  have hd := hy2.part hk21
  have hdle := hy2.le
  have hdmx := hy2.max
  have hdl := hd.length
  have hbl := hdl
  refine Tr.enter Tryd.func9 rfl Tryd.ntmps9 rfl (Hp.refl w) ?_
  refine Tr.seq ?_
  refine Tr.region ?_
  refine Tr.op (W.box (cs := key.map U8) rfl rfl rfl fun g4 => ?_)
  refine Tr.op (W.box (cs := nonce.map U8) rfl rfl rfl fun g5 => ?_)
  refine Tr.val (V.assign rfl) rfl ?_
  refine Tr.lNil ?_
  refine Tr.thenN ?_
  refine Tr.seq ?_
  refine Tr.region ?_
  refine Tr.op (W.call1 (args0) Tryd.call19 rfl (fun w1 hw => shown4_true w1 ((RdP.old hq0 (fun _ _ => by simp)).now hw)) ?_)
  refine Tr.val (V.assign rfl) rfl ?_
  refine Tr.lNil ?_
  refine Tr.thenN ?_
  refine Tr.seq ?_
  refine Tr.region ?_
  refine Tr.val (V.move rfl) rfl ?_
  refine Tr.val (V.move rfl) rfl ?_
  refine Tr.val (V.len Tryd.runUnderlying27 rfl) rfl ?_
  refine Tr.val ((by rw [hkk]; exact V.minN (b := 200) rfl rfl : VOp Tryd.prog _ _ _ _ _ _ _ (.int .i64 (k : Int)))) rfl ?_
  refine Tr.val (V.cut Tryd.runUnderlying27 Tryd.sizeOf5 rfl rfl (by omega)) rfl ?_
  refine Tr.val (V.assign rfl) rfl ?_
  refine Tr.lNil ?_
  refine Tr.thenN ?_
  refine Tr.seq ?_
  refine Tr.region ?_
  refine Tr.val (V.move rfl) rfl ?_
  refine Tr.val (V.move rfl) rfl ?_
  refine Tr.val (V.len Tryd.runUnderlying27 rfl) rfl ?_
  refine Tr.val ((by rw [hkk2]; exact V.minN (b := 200) rfl rfl : VOp Tryd.prog _ _ _ _ _ _ _ (.int .i64 (k2 : Int)))) rfl ?_
  refine Tr.val (V.cut Tryd.runUnderlying27 Tryd.sizeOf5 rfl rfl (by omega)) rfl ?_
  refine Tr.val (V.assign rfl) rfl ?_
  refine Tr.lNil ?_
  refine Tr.thenN ?_
  refine Tr.seq ?_
  refine Tr.region ?_
  refine Tr.val (V.move rfl) rfl ?_
  refine Tr.val (V.bytesStr Tryd.runUnderlying27 Tryd.runUnderlying9 Tryd.runUnderlying5 rfl hb.old hb.length) rfl ?_
  refine Tr.val (V.move rfl) rfl ?_
  refine Tr.val (V.bytesStr Tryd.runUnderlying27 Tryd.runUnderlying9 Tryd.runUnderlying5 rfl hd.old hdl) rfl ?_
  refine Tr.val (V.addS rfl rfl (by rw [hb.length, hdl]; omega)) rfl ?_
  refine Tr.val (V.assign rfl) rfl ?_
  refine Tr.lNil ?_
  refine Tr.thenN ?_
  refine Tr.seq ?_
  refine Tr.region ?_
  refine Tr.val (V.loadN (cs := key.map U8) Tryd.isAgg23 (by rw [List.length_map, hk]; exact Tryd.sizeOf23) rfl (V.cellsB (by repeat (first | exact List.Mem.head _ | apply List.Mem.tail)))) rfl ?_
  refine Tr.val (V.loadN (cs := nonce.map U8) Tryd.isAgg26 (by rw [List.length_map, hn]; exact Tryd.sizeOf26) rfl (V.cellsB (by repeat (first | exact List.Mem.head _ | apply List.Mem.tail)))) rfl ?_
  refine Tr.val (V.move rfl) rfl ?_
  refine Tr.val (V.move rfl) rfl ?_
  refine Tr.op (W.call (val := fun r0 : Nat × Nat × List Value => .slice (some ⟨r0.1, 0, none⟩) (k2 + 16) r0.2.1) (N := fun r0 => [⟨r0.1, 5, (sealL key nonce (xs.take k) (ys.take k2)).map U8 ++ r0.2.2⟩]) (Px := fun r0 => ((sealL key nonce (xs.take k) (ys.take k2)).map U8 ++ r0.2.2).length = r0.2.1)  (args4 rfl rfl rfl rfl) Tryd.call20 rfl (fun w1 hw => seal_any p q k c k2 c2 key nonce (xs.take k) (ys.take k2) w1 hk hn (hb.now hw) (hd.now hw) (by omega) (by omega) ((RdP.old hq0 (fun _ _ => by simp)).now hw)) fun y hy => ?_)
  refine Tr.val (V.assign rfl) rfl ?_
  refine Tr.lNil ?_
  refine Tr.thenN ?_
  refine Tr.seq ?_
  refine Tr.region ?_
  refine Tr.val (V.loadN (cs := key.map U8) Tryd.isAgg23 (by rw [List.length_map, hk]; exact Tryd.sizeOf23) rfl (V.cellsB (by repeat (first | exact List.Mem.head _ | apply List.Mem.tail)))) rfl ?_
  refine Tr.val (V.loadN (cs := nonce.map U8) Tryd.isAgg26 (by rw [List.length_map, hn]; exact Tryd.sizeOf26) rfl (V.cellsB (by repeat (first | exact List.Mem.head _ | apply List.Mem.tail)))) rfl ?_
  refine Tr.val (V.move rfl) rfl ?_
  refine Tr.val (V.move rfl) rfl ?_
  refine Tr.op (W.call (val := fun r0 : Nat × Nat × List Value => .tuple #[.slice (some ⟨r0.1, 0, none⟩) k2 r0.2.1, .int .i64 0]) (N := fun r0 => [⟨r0.1, 5, (ys.take k2).map U8 ++ r0.2.2⟩]) (Px := fun r0 => ((ys.take k2).map U8 ++ r0.2.2).length = r0.2.1)  (args4 rfl rfl rfl rfl) Tryd.call21 rfl (fun w1 hw => by have h := open_ok p (some ⟨y.1, 0, none⟩) k c (k2 + 16) y.2.1 key nonce (xs.take k) (sealL key nonce (xs.take k) (ys.take k2)) w1 hk hn (hb.now hw) (Bytes.own hw (by repeat (first | exact List.Mem.head _ | apply List.Mem.tail)) (by rw [sealL_len]; exact congrArg (· + 16) hbl) hy (by omega)) (by omega) (by omega) (by omega) (open_seal _ _ _ _ k2 hbl).1 ((RdP.old hq0 (fun _ _ => by simp)).now hw); rw [(open_seal _ _ _ _ k2 hbl).2, Nat.add_sub_cancel] at h; exact h) fun z hz => ?_)
  refine Tr.val (V.move rfl) rfl ?_
  refine Tr.val (V.extract rfl rfl) rfl ?_
  refine Tr.val (V.extract rfl rfl) rfl ?_
  refine Tr.val (V.assign rfl) rfl ?_
  refine Tr.val (V.assign rfl) rfl ?_
  refine Tr.lNil ?_
  refine Tr.thenN ?_
  refine Tr.seq ?_
  refine Tr.regionD [0, 1, 3, 7, 3, 3, 3, 3, 243, 499, 1023, 2047, 4095, 8191, 16383, 8191, 40959, 131071, 262143, 524287, 1048575, 2097151, 4194303, 8388607, 16777215, 33554431, 16777215, 83886079, 268435455, 16777215, 1073741823, 2147483647, 4294967295] [] (.pure 0 (.pure 1 (.pure 2 (.soft 3 (.pure 4 (.pure 5 (.pure 6 (.pure 7 (.hard 8 (.soft 9 (.pure 10 (.pure 11 (.pure 12 (.pure 13 (.soft 14 (.pure 15 (.soft 16 (.pure 17 (.pure 18 (.pure 19 (.pure 20 (.pure 21 (.pure 22 (.pure 23 (.pure 24 (.soft 25 (.pure 26 (.soft 27 (.pure 28 (.pure 29 (.pure 30 (.pure 31 (.pure 32 .done))))))))))))))))))))))))))))))))) mixed (by kernel_rfl) ?_
  refine TrP.pure rfl (fun _ => V.move rfl) rfl ?_
  refine TrP.pure rfl (fun _ => V.move rfl) rfl ?_
  refine TrP.pureG rfl rfl (fun _ => V.move rfl) rfl ?_
  refine TrP.softG rfl rfl (V.bytesStr Tryd.runUnderlying27 Tryd.runUnderlying9 Tryd.runUnderlying5 rfl (xs := (sealL key nonce (xs.take k) (ys.take k2))) (RdP.headL (by repeat (first | exact List.Mem.head _ | apply List.Mem.tail))) (by rw [sealL_len, hdl])) rfl ?_
  refine TrP.pureG rfl rfl (fun _ => V.sliceW Tryd.runUnderlying23 Tryd.sizeOf5 rfl) rfl ?_
  refine TrP.pureG rfl rfl (fun _ => V.sliceW Tryd.runUnderlying26 Tryd.sizeOf5 rfl) rfl ?_
  refine TrP.pureG rfl rfl (fun _ => V.move rfl) rfl ?_
  refine TrP.pureG rfl rfl (fun _ => V.move rfl) rfl ?_
  refine TrP.hardG rfl rfl (W.call (val := fun r0 : Nat × Nat × List Value => .slice (some ⟨r0.1, 0, none⟩) (k2 + 16) r0.2.1) (N := fun r0 => [⟨r0.1, 5, (sealL key nonce (xs.take k) (ys.take k2)).map U8 ++ r0.2.2⟩]) (Px := fun r0 => ((sealL key nonce (xs.take k) (ys.take k2)).map U8 ++ r0.2.2).length = r0.2.1)  (args4 rfl rfl rfl rfl) Tryd.call22 rfl (fun w1 hw => rseal_any (some ⟨g4, 0, none⟩) (some ⟨g5, 0, none⟩) p q 32 12 k c k2 c2 key nonce (xs.take k) (ys.take k2) w1 ⟨(RdP.all (by repeat (first | exact List.Mem.head _ | apply List.Mem.tail))).now hw, hk, Nat.le_refl _, by omega, fun h => by cases h⟩ ⟨(RdP.all (by repeat (first | exact List.Mem.head _ | apply List.Mem.tail))).now hw, hn, Nat.le_refl _, by omega, fun h => by cases h⟩ (hb.now hw) (hd.now hw) (by omega) (by omega)) fun u hu => ?_)
  refine Tr.pOn (by first | exact List.Sublist.refl _ | exact List.sublist_cons_self _ _ | exact List.sublist_append_right _ _ | simp) ?_
  refine TrP.softG rfl rfl (V.bytesStr Tryd.runUnderlying27 Tryd.runUnderlying9 Tryd.runUnderlying5 rfl (xs := (sealL key nonce (xs.take k) (ys.take k2))) (RdP.headL (by repeat (first | exact List.Mem.head _ | apply List.Mem.tail))) (by rw [sealL_len, hdl])) rfl ?_
  refine TrP.pureG rfl rfl (fun _ => V.eqlS (b := true) rfl rfl (bstr_same _)) rfl ?_
  refine TrP.pure rfl (fun _ => V.pick rfl rfl) rfl ?_
  refine TrP.pure rfl (fun _ => V.move rfl) rfl ?_
  refine TrP.pureG rfl rfl (fun _ => V.move rfl) rfl ?_
  refine TrP.softG rfl rfl (V.bytesStr Tryd.runUnderlying27 Tryd.runUnderlying9 Tryd.runUnderlying5 rfl (xs := (ys.take k2)) (RdP.headL (by repeat (first | exact List.Mem.head _ | apply List.Mem.tail))) hdl) rfl ?_
  refine TrP.pureG rfl rfl (fun _ => V.move rfl) rfl ?_
  refine TrP.softG rfl rfl (V.bytesStr Tryd.runUnderlying27 Tryd.runUnderlying9 Tryd.runUnderlying5 rfl hd.old hdl) rfl ?_
  refine TrP.pureG rfl rfl (fun _ => V.eqlS (b := true) rfl rfl (bstr_same _)) rfl ?_
  refine TrP.pure rfl (fun _ => V.pick rfl rfl) rfl ?_
  refine TrP.pure rfl (fun _ => V.move rfl) rfl ?_
  refine TrP.pureG rfl rfl (fun _ => V.move rfl) rfl ?_
  refine TrP.pureG rfl rfl (fun _ => V.eql rfl rfl rfl) rfl ?_
  refine TrP.pure rfl (fun _ => V.pick rfl rfl) rfl ?_
  refine TrP.pure rfl (fun _ => V.move rfl) rfl ?_
  refine TrP.pureG rfl rfl (fun _ => V.move rfl) rfl ?_
  refine TrP.softG rfl rfl (V.bytesStr Tryd.runUnderlying27 Tryd.runUnderlying9 Tryd.runUnderlying5 rfl hb.old hb.length) rfl ?_
  refine TrP.pureG rfl rfl (fun _ => V.move rfl) rfl ?_
  refine TrP.softG rfl rfl (V.bytesStr Tryd.runUnderlying27 Tryd.runUnderlying9 Tryd.runUnderlying5 rfl hd.old hdl) rfl ?_
  refine TrP.pureG rfl rfl (fun _ => V.addS rfl rfl (by rw [hb.length, hdl]; omega)) rfl ?_
  refine TrP.pureG rfl rfl (fun _ => V.move rfl) rfl ?_
  refine TrP.pureG rfl rfl (fun _ => V.eqlS (b := true) rfl rfl (bstr_same _)) rfl ?_
  refine TrP.pure rfl (fun _ => V.pick rfl rfl) rfl ?_
  refine TrP.pure rfl (fun _ => V.assign rfl) rfl ?_
  refine TrP.done ?_
  refine Tr.thenN ?_
  refine Tr.ret ?_
  refine Tr.out1 rfl (Res.tmp rfl) fun w hw => ?_
  exact ⟨rfl, hw.sub (List.nil_sublist _)⟩

theorem aeadSeals_walk (x0 : List (BitVec 8)) (x1 : List (BitVec 8)) (a2 : Option Addr) (len2 cap2 : Nat) (z2 : List Int) (a3 : Option Addr) (len3 cap3 : Nat) (z3 : List Int) (w : World) (l0 : x0.length = 32) (l1 : x1.length = 12) (w2 : IsRow .u8 w a2 len2 cap2 z2) (w3 : IsRow .u8 w a3 len3 cap3 z3) (hq0 : RdB w (some ⟨0, 0, none⟩) (qflat.map NV)) :
    Calls Tryd.prog 9 #[.agg (x0.map U8).toArray, .agg (x1.map U8).toArray, .slice a2 len2 cap2, .slice a3 len3 cap3] w fun r w' => r = .returned (.bool true) ∧ Hp w [] [] w' := by
  obtain ⟨xs, hx⟩ := w2.bytes
  obtain ⟨ys, hy⟩ := w3.bytes
  exact aeadSeals_run a2 a3 len2 cap2 len3 cap3 x0 x1 xs ys w l0 l1 hx hy hq0
namespace aeadSeals
open Go.ChangeShapes Go.WideShapes Go.ChangeAt Go.RowKit Go.Sym
theorem own : ownKnob Tryd.prog.godebug = none := by kernel_rfl
theorem laidOut : laidOutB Tryd.prog = true := by kernel_rfl
set_option maxRecDepth 100000 in
theorem lifted (os : Os) (started : os.Started) (H : Type) (enc : TypeId × Value → H) :
    ReturnsInHanded {} Tryd.checked os 9 .any (fun w args => (Rows.aeadSealsSpec.pre enc Tryd.prog Tryd.f9 [] false w args ∧ laidMetH Tryd.prog laidQ w) ∧ sizedMet enc Tryd.prog Tryd.f9 (OpenSpec.ofChange Rows.aeadSealsSpec) false w args) (Rows.aeadSealsSpec.post enc Tryd.prog Tryd.f9 false true false false) := by
  refine returnsInHanded_of_change_and (C := Tryd.checked) (X := fun w _ => laidMetH Tryd.prog laidQ w) (fun _ _ _ hh h => h.of_heap hh) own started (by kernel_rfl) Tryd.func9
    (ChangeSpec.witness_shaped (enc := enc) (C := Tryd.checked) (os := os) (X := fun w _ => laidMetH Tryd.prog laidQ w) false (World.doorLaid Tryd.prog 22 os) #[.agg #[.int .u8 0, .int .u8 0, .int .u8 0, .int .u8 0, .int .u8 0, .int .u8 0, .int .u8 0, .int .u8 0, .int .u8 0, .int .u8 0, .int .u8 0, .int .u8 0, .int .u8 0, .int .u8 0, .int .u8 0, .int .u8 0, .int .u8 0, .int .u8 0, .int .u8 0, .int .u8 0, .int .u8 0, .int .u8 0, .int .u8 0, .int .u8 0, .int .u8 0, .int .u8 0, .int .u8 0, .int .u8 0, .int .u8 0, .int .u8 0, .int .u8 0, .int .u8 0], .agg #[.int .u8 0, .int .u8 0, .int .u8 0, .int .u8 0, .int .u8 0, .int .u8 0, .int .u8 0, .int .u8 0, .int .u8 0, .int .u8 0, .int .u8 0, .int .u8 0], .slice none 0 0, .slice none 0 0] 8 rfl (World.shaped_of_RefB (by kernel_rfl) (by kernel_rfl)) (by kernel_rfl) (by kernel_rfl) (by kernel_rfl) (door_met os _)) ?_
  intro W base args ds gs before hval0 hW _ _ hL _
  have hval : ∀ (j : Nat) t v, Tryd.f9.params[j]? = some t → args[j]? = some v → Value.okWide Tryd.prog W .any base t v := hval0
  have hW' := hW
  obtain ⟨p, q, hA0, hV, rfl, hfz, hnd⟩ := hW
  have hA : DataW.TrodAll enc Tryd.prog W 0 (fun _ => true) true Tryd.f9.params.toList args.toList ds p := hA0
  rw [Tryd.params9] at hA hval
  obtain ⟨v0, vs0, d0, ds0, p0, q0, hargs, rfl, rfl, h0, r0⟩ := trodAll_cons hA
  obtain ⟨v1, vs1, d1, ds1, p1, q1, rfl, rfl, rfl, h1, r1⟩ := trodAll_cons r0
  obtain ⟨v2, vs2, d2, ds2, p2, q2, rfl, rfl, rfl, h2, r2⟩ := trodAll_cons r1
  obtain ⟨v3, vs3, d3, ds3, p3, q3, rfl, rfl, rfl, h3, r3⟩ := trodAll_cons r2
  obtain ⟨rfl, rfl, rfl⟩ := trodAll_nil r3
  obtain rfl : args = #[v0, v1, v2, v3] := by cases args; simp_all
  obtain ⟨rfl, rfl⟩ := trodVars_none hV
  have k0 := h0
  have lt0 : ∀ x ∈ p0, x.block < W.heap.size := by obtain ⟨m, hm⟩ := k0; exact DataW.trod_lt m _ _ _ hm
  obtain ⟨x0, l0, rfl⟩ := open_bytesArr Tryd.underlying23 Tryd.underlying5 (by kernel_rfl) (by kernel_rfl) (hval 0 23 v0 rfl rfl) h0
  have k1 := h1
  have lt1 : ∀ x ∈ p1, x.block < W.heap.size := by obtain ⟨m, hm⟩ := k1; exact DataW.trod_lt m _ _ _ hm
  obtain ⟨x1, l1, rfl⟩ := open_bytesArr Tryd.underlying26 Tryd.underlying5 (by kernel_rfl) (by kernel_rfl) (hval 1 26 v1 rfl rfl) h1
  obtain ⟨a2, len2, cap2, rfl⟩ := okWide_slice Tryd.underlying27 (hval 2 27 v2 rfl rfl)
  have k2 := h2
  have lt2 : ∀ x ∈ p2, x.block < W.heap.size := by obtain ⟨m, hm⟩ := k2; exact DataW.trod_lt m _ _ _ hm
  obtain ⟨z2, w2⟩ : ∃ zs, IsRow .u8 W a2 len2 cap2 zs := by
    obtain ⟨fuel, hf⟩ := h2
    rcases open_ints Tryd.underlying27 Tryd.underlying5 (by kernel_rfl) hf with ⟨hcs, _⟩ | ⟨x, l, c, zs, hcs, _, hl, hm, hz, _, hcell, hwz⟩
    · simp [Value.cells] at hcs
      obtain ⟨rfl, rfl, rfl⟩ := hcs
      exact ⟨[], .inl ⟨rfl, rfl, rfl, rfl⟩⟩
    · simp [Value.cells] at hcs
      obtain ⟨rfl, rfl, rfl⟩ := hcs
      exact ⟨zs, .inr ⟨_, rfl, hl, hm, by simpa using hz, hcell, hwz⟩⟩
  obtain ⟨a3, len3, cap3, rfl⟩ := okWide_slice Tryd.underlying27 (hval 3 27 v3 rfl rfl)
  have k3 := h3
  have lt3 : ∀ x ∈ p3, x.block < W.heap.size := by obtain ⟨m, hm⟩ := k3; exact DataW.trod_lt m _ _ _ hm
  obtain ⟨z3, w3⟩ : ∃ zs, IsRow .u8 W a3 len3 cap3 zs := by
    obtain ⟨fuel, hf⟩ := h3
    rcases open_ints Tryd.underlying27 Tryd.underlying5 (by kernel_rfl) hf with ⟨hcs, _⟩ | ⟨x, l, c, zs, hcs, _, hl, hm, hz, _, hcell, hwz⟩
    · simp [Value.cells] at hcs
      obtain ⟨rfl, rfl, rfl⟩ := hcs
      exact ⟨[], .inl ⟨rfl, rfl, rfl, rfl⟩⟩
    · simp [Value.cells] at hcs
      obtain ⟨rfl, rfl, rfl⟩ := hcs
      exact ⟨zs, .inr ⟨_, rfl, hl, hm, by simpa using hz, hcell, hwz⟩⟩
  clear hA0 hval0
  refine (aeadSeals_walk x0 x1 a2 len2 cap2 z2 a3 len3 cap3 z3 W l0 l1 w2 w3 (of_laid hL)).mono fun e W' ⟨he, hp⟩ => ?_
  have bel : Below W.heap.size W W' := hp.below
  subst he
  exact ⟨_, rfl, _, _, _, [], _, [], hW', trodAll_mk1 (shut_bool Tryd.underlying4 _), (trodAll_cons_mk (Below.trod laidOut (by kernel_rfl) (of_decide_eq_true (by kernel_rfl)) k0 bel lt0) (trodAll_cons_mk (Below.trod laidOut (by kernel_rfl) (of_decide_eq_true (by kernel_rfl)) k1 bel lt1) (trodAll_cons_mk (Below.trod laidOut (by kernel_rfl) (of_decide_eq_true (by kernel_rfl)) k2 bel lt2) (trodAll_cons_mk (Below.trod laidOut (by kernel_rfl) (of_decide_eq_true (by kernel_rfl)) k3 bel lt3) trodAll_mk0)))), rfl, bel.frame _, fun h => by cases h⟩
theorem over : Rows.aeadSealsRow.holds Tryd.pinned (OpenSpec.ofChange Rows.aeadSealsSpec) :=
  OpenClaim.holds_of_wide 9 Tryd.f9 rfl rfl rfl rfl rfl rfl rfl ⟨rfl, rfl, rfl, rfl, rfl⟩ rfl rfl rfl rfl rfl (by kernel_rfl) Tryd.func9 (by kernel_rfl)
    (of_decide_eq_true (by kernel_rfl)) (by unfold Func.isWrapper; first | (rw [if_pos (by decide +kernel)]; kernel_rfl) | (rw [if_neg (by decide +kernel)]; exact ⟨rfl, rfl⟩))
    (fun os started H enc _ => lifted os started H enc)
end aeadSeals
/-- The statement. -/
theorem aeadSealsProved : Rows.AeadSealsCardSaid :=
  Claim7.holds_tied_plain_at .later [] [.data] true (true, "3370d27d9255588c3956976426ca7d2b61d4b9f8ebcd526ac9795ba27740e44b") false
    aeadSeals.over (fun _ h => by cases h) (by kernel_rfl) (fun _ h => by cases h) aeadSeals_row_tie rfl ⟨rfl, rfl⟩ (by kernel_rfl) rfl
    (fun f fn hf hfn => by
      obtain rfl : f = 9 := Option.some.inj ((show Tryd.prog.funcNamed "hatchway/hatchwaylaw04.AeadSeals" = some 9 by kernel_rfl).symm.trans hf) |>.symm
      obtain rfl : fn = Tryd.f9 := (Option.some.inj (Tryd.func9.symm.trans hfn)).symm
      exact ⟨by kernel_rfl, fun j t ht => by
        rw [Tryd.params9] at ht
        have hm : t ∈ [23, 26, 27, 27] := by simpa using Array.mem_of_getElem? ht
        have hall : ([23, 26, 27, 27].all fun u => !Tryd.prog.wantsStandIn u) = true := by kernel_rfl
        exact (show Tryd.prog.wantsStandIn t = false by simpa using List.all_eq_true.1 hall t hm)⟩)
    (by kernel_rfl)
end Go.Proofs.YtnhfmmohdiccgaaDoor
