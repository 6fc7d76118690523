/-
  hatchwaylaw04.AeadSums returns true, whatever its arguments. (Printed by a program of this session over its walk printer.)
-/
import Derived.Test.YtnhfmmohdiccgaaDoorCards
import Derived.Test.YtnhfmmohdiccgaaDoorTie
import Derived.Test.YtnhfmmohdiccgaaDoorLaw4
import Derived.Test.YtnhfmmohdiccgaaDoorLaid
namespace Go.Proofs.YtnhfmmohdiccgaaDoor
open Go.Sym Plain
set_option linter.unusedVariables false
set_option maxRecDepth 20000

theorem aeadSums_run (p q : Option Addr) (m c m2 c2 : Nat) (key nonce xs ys : List (BitVec 8)) (w : World) (hk : key.length = 32) (hn : nonce.length = 12) (hx : Bytes w p m c xs) (hy2 : Bytes w q m2 c2 ys) (hq0 : RdB w (some ⟨0, 0, none⟩) (qflat.map NV)) :
    Calls Tryd.prog 13 [.agg (key.map U8).toArray, .agg (nonce.map U8).toArray, .slice p m c, .slice q m2 c2].toArray w fun r w' => r = .returned (.bool true) ∧ Hp w [] [] w' := by
  obtain ⟨k, hkk⟩ : ∃ k, k = Nat.min (Nat.min m m2) 200 := ⟨_, rfl⟩
  have hk1 : k ≤ m := by rw [hkk]; exact Nat.le_trans (Nat.min_le_left _ _) (Nat.min_le_left _ _)
  have hk2 : k ≤ m2 := by rw [hkk]; exact Nat.le_trans (Nat.min_le_left _ _) (Nat.min_le_right _ _)
  have hk3 : k ≤ 200 := by rw [hkk]; exact Nat.min_le_right _ _
  have hb := hx.part hk1
  have hd := hy2.part hk2
  have hle := hx.le
  have hle2 := hy2.le
  have hmx := hx.max
  have hmy := hy2.max
  have hbl := hb.length
  have hdl := hd.length
  refine Tr.enter Tryd.func13 rfl Tryd.ntmps13 rfl (Hp.refl w) ?_
  refine Tr.seq ?_
  refine Tr.region ?_
  refine Tr.op (W.box (cs := key.map U8) rfl rfl rfl fun g4 => ?_)
  refine Tr.op (W.box (cs := nonce.map U8) rfl rfl rfl fun g5 => ?_)
  refine Tr.val (V.assign rfl) rfl ?_
  refine Tr.lNil ?_
  refine Tr.thenN ?_
  refine Tr.seq ?_
  refine Tr.region ?_
  refine Tr.op (W.call1 (args0) Tryd.call19 rfl (fun w1 hw => shown4_true w1 ((RdP.old hq0 (fun _ _ => by simp)).now hw)) ?_)
  refine Tr.val (V.assign rfl) rfl ?_
  refine Tr.lNil ?_
  refine Tr.thenN ?_
  refine Tr.seq ?_
  refine Tr.region ?_
  refine Tr.val (V.move rfl) rfl ?_
  refine Tr.val (V.len Tryd.runUnderlying27 rfl) rfl ?_
  refine Tr.val (V.move rfl) rfl ?_
  refine Tr.val (V.len Tryd.runUnderlying27 rfl) rfl ?_
  refine Tr.val ((by rw [hkk]; exact V.min3 rfl rfl rfl : VOp Tryd.prog _ _ _ _ _ _ _ (NV k))) rfl ?_
  refine Tr.val (V.assign rfl) rfl ?_
  refine Tr.lNil ?_
  refine Tr.thenN ?_
  refine Tr.seq ?_
  refine Tr.regionD [0, 0, 0, 4, 0, 0, 48, 127, 255] [] (.soft 0 (.soft 1 (.pure 4 (.pure 5 (.pure 6 (.hard 2 (.hard 3 (.hard 7 (.pure 8 .done))))))))) mixed (by kernel_rfl) ?_
  refine TrP.soft rfl (V.loadN (cs := key.map U8) Tryd.isAgg23 (by rw [List.length_map, hk]; exact Tryd.sizeOf23) rfl (V.cellsB (by repeat (first | exact List.Mem.head _ | apply List.Mem.tail)))) rfl ?_
  refine TrP.soft rfl (V.loadN (cs := nonce.map U8) Tryd.isAgg26 (by rw [List.length_map, hn]; exact Tryd.sizeOf26) rfl (V.cellsB (by repeat (first | exact List.Mem.head _ | apply List.Mem.tail)))) rfl ?_
  refine TrP.pure rfl (fun _ => V.move rfl) rfl ?_
  refine TrP.pure rfl (fun _ => V.move rfl) rfl ?_
  refine TrP.pure rfl (fun _ => V.cut Tryd.runUnderlying27 Tryd.sizeOf5 rfl rfl (by omega)) rfl ?_
  refine TrP.markLit (cs := (oneB.map U8)) rfl rfl (fun _ => rfl) rfl Tryd.runUnderlying27 Tryd.runUnderlying5 (fun K hK => W.build (vs := (oneB.map U8)) elem27 (fun a _ => by simp [Act.eval, List.range'_succ, oneB]) rfl (by simp [Value.cells, oneB]) (by decide) rfl  hK) fun g22 w1 hq1 hr1 hg1 => ?_
  have s1 := KeptRow.next hq1 (⟨hq0, fun _ _ => by simp⟩ : KeptRow w [] (some ⟨0, 0, none⟩) (qflat.map NV)) (by decide)
  have r1 : KeptRow w1 _ _ (oneB.map U8) := ⟨hr1, fun a h => by cases h; exact hg1⟩
  refine TrP.hard rfl (W.call (val := fun r0 : Nat × Nat × List Value => .slice (some ⟨r0.1, 0, none⟩) (k + 16) r0.2.1) (N := fun r0 => [⟨r0.1, 5, (sealL key nonce oneB (xs.take k)).map U8 ++ r0.2.2⟩]) (Px := fun r0 => ((sealL key nonce oneB (xs.take k)).map U8 ++ r0.2.2).length = r0.2.1)  (args4 rfl rfl rfl rfl) Tryd.call20 rfl (fun w1 hw => seal_any (some ⟨g22, 0, none⟩) p 3 3 k c key nonce oneB (xs.take k) w1 hk hn (KeptRow.bytes r1 hw rfl (by omega)) (hb.next hq1 hw) (by omega) (by omega) ((RdP.old s1.1 s1.2).now hw)) fun y hy => ?_)
  refine Tr.pOn (by first | exact List.Sublist.refl _ | exact List.sublist_cons_self _ _ | exact List.sublist_append_right _ _ | simp) ?_
  refine TrP.pure rfl (fun _ => V.assign rfl) rfl ?_
  refine TrP.done ?_
  refine Tr.thenN ?_
  refine Tr.seq ?_
  refine Tr.regionD [0, 0, 0, 0, 12, 31, 63] [] (.soft 0 (.soft 1 (.pure 2 (.pure 3 (.pure 4 (.hard 5 (.pure 6 .done))))))) mixed (by kernel_rfl) ?_
  refine TrP.soft rfl (V.loadN (cs := key.map U8) Tryd.isAgg23 (by rw [List.length_map, hk]; exact Tryd.sizeOf23) rfl (V.cellsB (by repeat (first | exact List.Mem.head _ | apply List.Mem.tail)))) rfl ?_
  refine TrP.soft rfl (V.loadN (cs := nonce.map U8) Tryd.isAgg26 (by rw [List.length_map, hn]; exact Tryd.sizeOf26) rfl (V.cellsB (by repeat (first | exact List.Mem.head _ | apply List.Mem.tail)))) rfl ?_
  refine TrP.pure rfl (fun _ => V.move rfl) rfl ?_
  refine TrP.pure rfl (fun _ => V.move rfl) rfl ?_
  refine TrP.pure rfl (fun _ => V.cut Tryd.runUnderlying27 Tryd.sizeOf5 rfl rfl (by omega)) rfl ?_
  refine TrP.hard rfl (W.call (val := fun r0 : Nat × Nat × List Value => .slice (some ⟨r0.1, 0, none⟩) (k + 16) r0.2.1) (N := fun r0 => [⟨r0.1, 5, (sealL key nonce [] (ys.take k)).map U8 ++ r0.2.2⟩]) (Px := fun r0 => ((sealL key nonce [] (ys.take k)).map U8 ++ r0.2.2).length = r0.2.1)  (args4 rfl rfl rfl rfl) Tryd.call20 rfl (fun w1 hw => seal_any Option.none q 0 0 k c2 key nonce [] (ys.take k) w1 hk hn (Bytes.no w1) (hd.next hq1 hw) (by omega) (by omega) ((RdP.old s1.1 s1.2).now hw)) fun z hz => ?_)
  refine Tr.pOn (by first | exact List.Sublist.refl _ | exact List.sublist_cons_self _ _ | exact List.sublist_append_right _ _ | simp) ?_
  refine TrP.pure rfl (fun _ => V.assign rfl) rfl ?_
  refine TrP.done ?_
  refine Tr.thenN ?_
  refine Tr.seq ?_
  refine Tr.seq ?_
  refine Tr.region ?_
  refine Tr.val (V.move rfl) rfl ?_
  refine Tr.val (V.len Tryd.runUnderlying27 rfl) rfl ?_
  refine Tr.val (V.move rfl) rfl ?_
  refine Tr.val (V.addN (b := 16) rfl rfl (by omega)) rfl ?_
  refine Tr.val (V.neq (b := false) rfl rfl (decide_eq_false (by omega))) rfl ?_
  refine Tr.val (V.move rfl) rfl ?_
  refine Tr.valG rfl (V.move rfl) rfl ?_
  refine Tr.valG rfl (V.len Tryd.runUnderlying27 rfl) rfl ?_
  refine Tr.valG rfl (V.move rfl) rfl ?_
  refine Tr.valG rfl (V.addN (b := 16) rfl rfl (by omega)) rfl ?_
  refine Tr.valG rfl (V.neq (b := false) rfl rfl (decide_eq_false (by omega))) rfl ?_
  refine Tr.val (V.pick rfl rfl) rfl ?_
  refine Tr.lNil ?_
  refine Tr.thenN ?_
  refine Tr.condF rfl ?_
  refine Tr.skip ?_
  refine Tr.thenN ?_
  refine Tr.seq ?_
  refine Tr.seq ?_
  refine Tr.region ?_
  refine Tr.val (V.assign rfl) rfl ?_
  refine Tr.lNil ?_
  refine Tr.thenN ?_
  refine Tr.block ?_
  refine Tr.loop (ι := Nat) (fun j => j ≤ k) (fun j => [(2, .slice p m c), (3, .slice q m2 c2), (9, .bool true), (10, NV k), (11, .slice (some ⟨y.1, 0, none⟩) (k + 16) y.2.1), (12, .slice (some ⟨z.1, 0, none⟩) (k + 16) z.2.1), (13, NV j)]) (fun j => [⟨z.1, 5, (sealL key nonce [] (ys.take k)).map U8 ++ z.2.2⟩, ⟨y.1, 5, (sealL key nonce oneB (xs.take k)).map U8 ++ y.2.2⟩]) (fun j => k - j) 0 (Nat.zero_le _) (lk_cons rfl (lk_cons rfl (lk_cons rfl (lk_cons rfl (lk_cons rfl (lk_cons rfl (lk_cons rfl (lk_nil _)))))))) (.cons_cons _ (.cons_cons _ (List.nil_sublist _))) fun j hI => ?_
  refine Tr.seq ?_
  refine Tr.seq ?_
  refine Tr.region ?_
  refine Tr.val (V.move rfl) rfl ?_
  refine Tr.val (V.move rfl) rfl ?_
  refine Tr.val (V.lss rfl rfl rfl) rfl ?_
  refine Tr.lNil ?_
  refine Tr.thenN ?_
  refine Tr.cond rfl (fun hT1 => ?_) (fun hF1 => ?_)
  · simp only [decide_eq_true_eq] at hT1
    have hlt : j < k := by omega
    obtain ⟨a, ha⟩ : ∃ a, xs[j]? = some a := ⟨_, List.getElem?_eq_getElem (by have := hx.length; omega)⟩
    obtain ⟨b, hb2⟩ : ∃ b, ys[j]? = some b := ⟨_, List.getElem?_eq_getElem (by have := hy2.length; omega)⟩
    have hsa := seal_get key nonce oneB (xs.take k) j a (by rw [List.getElem?_take, if_pos hlt]; exact ha)
    have hsb := seal_get key nonce [] (ys.take k) j b (by rw [List.getElem?_take, if_pos hlt]; exact hb2)
    have hp : p.isSome = true := by
      cases p with
      | none => have := (hx.none rfl).1; omega
      | some _ => rfl
    have hq : q.isSome = true := by
      cases q with
      | none => have := (hy2.none rfl).1; omega
      | some _ => rfl
    refine Tr.skip ?_
    refine Tr.thenN ?_
    refine Tr.seq ?_
    refine Tr.block ?_
    refine Tr.seq ?_
    refine Tr.regionD [0, 0, 3, 7, 0, 0, 48, 112, 255, 0, 0, 1536, 3584, 0, 0, 24576, 57344, 130560, 262143] [] (.pure 0 (.pure 1 (.pure 2 (.soft 3 (.pure 4 (.pure 5 (.pure 6 (.soft 7 (.pure 8 (.pure 9 (.pure 10 (.pure 11 (.soft 12 (.pure 13 (.pure 14 (.pure 15 (.soft 16 (.pure 17 (.pure 18 .done))))))))))))))))))) mixed (by kernel_rfl) ?_
    refine TrP.pure rfl (fun _ => V.move rfl) rfl ?_
    refine TrP.pure rfl (fun _ => V.move rfl) rfl ?_
    refine TrP.pure rfl (fun _ => V.idxO (j := j) (o' := j) Tryd.runUnderlying27 Tryd.sizeOf5 rfl rfl (by omega) (by omega) (by omega)) rfl ?_
    refine TrP.soft rfl (V.load1 Tryd.isAgg5 rfl (V.cellB (by repeat (first | exact List.Mem.head _ | apply List.Mem.tail)) (by rw [List.getElem?_append_left (by rw [List.length_map, sealL_len]; omega), List.getElem?_map, hsa]; rfl))) rfl ?_
    refine TrP.pure rfl (fun _ => V.move rfl) rfl ?_
    refine TrP.pure rfl (fun _ => V.move rfl) rfl ?_
    refine TrP.pure rfl (fun _ => V.idxO (j := j) (o' := j) Tryd.runUnderlying27 Tryd.sizeOf5 rfl rfl (by omega) (by omega) (by omega)) rfl ?_
    refine TrP.soft rfl (V.load1 Tryd.isAgg5 rfl (V.cellB (by repeat (first | exact List.Mem.head _ | apply List.Mem.tail)) (by rw [List.getElem?_append_left (by rw [List.length_map, sealL_len]; omega), List.getElem?_map, hsb]; rfl))) rfl ?_
    refine TrP.pure rfl (fun _ => V.xor8 rfl rfl) rfl ?_
    refine TrP.pure rfl (fun _ => V.move rfl) rfl ?_
    refine TrP.pure rfl (fun _ => V.move rfl) rfl ?_
    refine TrP.pure rfl (fun _ => V.idxS (j := j) Tryd.runUnderlying27 Tryd.sizeOf5 rfl rfl (by omega) (by omega) hp) rfl ?_
    refine TrP.soft rfl (V.load1 Tryd.isAgg5 rfl (V.cellR (fun w2 hw2 => (hx.next hq1 hw2).rd) (by rw [List.getElem?_map, ha]; rfl))) rfl ?_
    refine TrP.pure rfl (fun _ => V.move rfl) rfl ?_
    refine TrP.pure rfl (fun _ => V.move rfl) rfl ?_
    refine TrP.pure rfl (fun _ => V.idxS (j := j) Tryd.runUnderlying27 Tryd.sizeOf5 rfl rfl (by omega) (by omega) hq) rfl ?_
    refine TrP.soft rfl (V.load1 Tryd.isAgg5 rfl (V.cellR (fun w2 hw2 => (hy2.next hq1 hw2).rd) (by rw [List.getElem?_map, hb2]; rfl))) rfl ?_
    refine TrP.pure rfl (fun _ => V.xor8 rfl rfl) rfl ?_
    refine TrP.pure rfl (fun _ => V.neq8 (b := false) rfl rfl (by rw [stream_sums]; simp)) rfl ?_
    refine TrP.done ?_
    refine Tr.thenN ?_
    refine Tr.condF rfl ?_
    refine Tr.skip ?_
    refine Tr.inN ?_
    refine Tr.thenN ?_
    refine Tr.region ?_
    refine Tr.val (V.move rfl) rfl ?_
    refine Tr.val (V.add rfl rfl (by omega)) rfl ?_
    refine Tr.val (V.assign rfl) rfl ?_
    refine Tr.lNil ?_
    exact Tr.again (j + 1) (by omega) (by omega) (lk_cons rfl (lk_cons rfl (lk_cons rfl (lk_cons rfl (lk_cons rfl (lk_cons rfl (lk_cons rfl (lk_nil _)))))))) (List.Sublist.refl _)
  · simp only [decide_eq_false_iff_not] at hF1
    refine Tr.exit ?_
    refine Tr.thenX ?_
    refine Tr.thenX ?_
    refine Tr.inHit ?_
    refine Tr.thenN ?_
    refine Tr.seq ?_
    refine Tr.region ?_
    refine Tr.val (V.move rfl) rfl ?_
    refine Tr.val (V.assign rfl) rfl ?_
    refine Tr.lNil ?_
    refine Tr.thenN ?_
    refine Tr.ret ?_
    refine Tr.out1 rfl (Res.tmp rfl) fun w hw => ?_
    exact ⟨rfl, (hq1.trans hw).sub (List.nil_sublist _)⟩

theorem aeadSums_walk (x0 : List (BitVec 8)) (x1 : List (BitVec 8)) (a2 : Option Addr) (len2 cap2 : Nat) (z2 : List Int) (a3 : Option Addr) (len3 cap3 : Nat) (z3 : List Int) (w : World) (l0 : x0.length = 32) (l1 : x1.length = 12) (w2 : IsRow .u8 w a2 len2 cap2 z2) (w3 : IsRow .u8 w a3 len3 cap3 z3) (hq0 : RdB w (some ⟨0, 0, none⟩) (qflat.map NV)) :
    Calls Tryd.prog 13 #[.agg (x0.map U8).toArray, .agg (x1.map U8).toArray, .slice a2 len2 cap2, .slice a3 len3 cap3] w fun r w' => r = .returned (.bool true) ∧ Hp w [] [] w' := by
  obtain ⟨xs, hx⟩ := w2.bytes
  obtain ⟨ys, hy⟩ := w3.bytes
  exact aeadSums_run a2 a3 len2 cap2 len3 cap3 x0 x1 xs ys w l0 l1 hx hy hq0
namespace aeadSums
open Go.ChangeShapes Go.WideShapes Go.ChangeAt Go.RowKit Go.Sym
theorem own : ownKnob Tryd.prog.godebug = none := by kernel_rfl
theorem laidOut : laidOutB Tryd.prog = true := by kernel_rfl
set_option maxRecDepth 100000 in
theorem lifted (os : Os) (started : os.Started) (H : Type) (enc : TypeId × Value → H) :
    ReturnsInHanded {} Tryd.checked os 13 .any (fun w args => (Rows.aeadSumsSpec.pre enc Tryd.prog Tryd.f13 [] false w args ∧ laidMetH Tryd.prog laidQ w) ∧ sizedMet enc Tryd.prog Tryd.f13 (OpenSpec.ofChange Rows.aeadSumsSpec) false w args) (Rows.aeadSumsSpec.post enc Tryd.prog Tryd.f13 false true false false) := by
  refine returnsInHanded_of_change_and (C := Tryd.checked) (X := fun w _ => laidMetH Tryd.prog laidQ w) (fun _ _ _ hh h => h.of_heap hh) own started (by kernel_rfl) Tryd.func13
    (ChangeSpec.witness_shaped (enc := enc) (C := Tryd.checked) (os := os) (X := fun w _ => laidMetH Tryd.prog laidQ w) false (World.doorLaid Tryd.prog 22 os) #[.agg #[.int .u8 0, .int .u8 0, .int .u8 0, .int .u8 0, .int .u8 0, .int .u8 0, .int .u8 0, .int .u8 0, .int .u8 0, .int .u8 0, .int .u8 0, .int .u8 0, .int .u8 0, .int .u8 0, .int .u8 0, .int .u8 0, .int .u8 0, .int .u8 0, .int .u8 0, .int .u8 0, .int .u8 0, .int .u8 0, .int .u8 0, .int .u8 0, .int .u8 0, .int .u8 0, .int .u8 0, .int .u8 0, .int .u8 0, .int .u8 0, .int .u8 0, .int .u8 0], .agg #[.int .u8 0, .int .u8 0, .int .u8 0, .int .u8 0, .int .u8 0, .int .u8 0, .int .u8 0, .int .u8 0, .int .u8 0, .int .u8 0, .int .u8 0, .int .u8 0], .slice none 0 0, .slice none 0 0] 8 rfl (World.shaped_of_RefB (by kernel_rfl) (by kernel_rfl)) (by kernel_rfl) (by kernel_rfl) (by kernel_rfl) (door_met os _)) ?_
  intro W base args ds gs before hval0 hW _ _ hL _
  have hval : ∀ (j : Nat) t v, Tryd.f13.params[j]? = some t → args[j]? = some v → Value.okWide Tryd.prog W .any base t v := hval0
  have hW' := hW
  obtain ⟨p, q, hA0, hV, rfl, hfz, hnd⟩ := hW
  have hA : DataW.TrodAll enc Tryd.prog W 0 (fun _ => true) true Tryd.f13.params.toList args.toList ds p := hA0
  rw [Tryd.params13] at hA hval
  obtain ⟨v0, vs0, d0, ds0, p0, q0, hargs, rfl, rfl, h0, r0⟩ := trodAll_cons hA
  obtain ⟨v1, vs1, d1, ds1, p1, q1, rfl, rfl, rfl, h1, r1⟩ := trodAll_cons r0
  obtain ⟨v2, vs2, d2, ds2, p2, q2, rfl, rfl, rfl, h2, r2⟩ := trodAll_cons r1
  obtain ⟨v3, vs3, d3, ds3, p3, q3, rfl, rfl, rfl, h3, r3⟩ := trodAll_cons r2
  obtain ⟨rfl, rfl, rfl⟩ := trodAll_nil r3
  obtain rfl : args = #[v0, v1, v2, v3] := by cases args; simp_all
  obtain ⟨rfl, rfl⟩ := trodVars_none hV
  have k0 := h0
  have lt0 : ∀ x ∈ p0, x.block < W.heap.size := by obtain ⟨m, hm⟩ := k0; exact DataW.trod_lt m _ _ _ hm
  obtain ⟨x0, l0, rfl⟩ := open_bytesArr Tryd.underlying23 Tryd.underlying5 (by kernel_rfl) (by kernel_rfl) (hval 0 23 v0 rfl rfl) h0
  have k1 := h1
  have lt1 : ∀ x ∈ p1, x.block < W.heap.size := by obtain ⟨m, hm⟩ := k1; exact DataW.trod_lt m _ _ _ hm
  obtain ⟨x1, l1, rfl⟩ := open_bytesArr Tryd.underlying26 Tryd.underlying5 (by kernel_rfl) (by kernel_rfl) (hval 1 26 v1 rfl rfl) h1
  obtain ⟨a2, len2, cap2, rfl⟩ := okWide_slice Tryd.underlying27 (hval 2 27 v2 rfl rfl)
  have k2 := h2
  have lt2 : ∀ x ∈ p2, x.block < W.heap.size := by obtain ⟨m, hm⟩ := k2; exact DataW.trod_lt m _ _ _ hm
  obtain ⟨z2, w2⟩ : ∃ zs, IsRow .u8 W a2 len2 cap2 zs := by
    obtain ⟨fuel, hf⟩ := h2
    rcases open_ints Tryd.underlying27 Tryd.underlying5 (by kernel_rfl) hf with ⟨hcs, _⟩ | ⟨x, l, c, zs, hcs, _, hl, hm, hz, _, hcell, hwz⟩
    · simp [Value.cells] at hcs
      obtain ⟨rfl, rfl, rfl⟩ := hcs
      exact ⟨[], .inl ⟨rfl, rfl, rfl, rfl⟩⟩
    · simp [Value.cells] at hcs
      obtain ⟨rfl, rfl, rfl⟩ := hcs
      exact ⟨zs, .inr ⟨_, rfl, hl, hm, by simpa using hz, hcell, hwz⟩⟩
  obtain ⟨a3, len3, cap3, rfl⟩ := okWide_slice Tryd.underlying27 (hval 3 27 v3 rfl rfl)
  have k3 := h3
  have lt3 : ∀ x ∈ p3, x.block < W.heap.size := by obtain ⟨m, hm⟩ := k3; exact DataW.trod_lt m _ _ _ hm
  obtain ⟨z3, w3⟩ : ∃ zs, IsRow .u8 W a3 len3 cap3 zs := by
    obtain ⟨fuel, hf⟩ := h3
    rcases open_ints Tryd.underlying27 Tryd.underlying5 (by kernel_rfl) hf with ⟨hcs, _⟩ | ⟨x, l, c, zs, hcs, _, hl, hm, hz, _, hcell, hwz⟩
    · simp [Value.cells] at hcs
      obtain ⟨rfl, rfl, rfl⟩ := hcs
      exact ⟨[], .inl ⟨rfl, rfl, rfl, rfl⟩⟩
    · simp [Value.cells] at hcs
      obtain ⟨rfl, rfl, rfl⟩ := hcs
      exact ⟨zs, .inr ⟨_, rfl, hl, hm, by simpa using hz, hcell, hwz⟩⟩
  clear hA0 hval0
  refine (aeadSums_walk x0 x1 a2 len2 cap2 z2 a3 len3 cap3 z3 W l0 l1 w2 w3 (of_laid hL)).mono fun e W' ⟨he, hp⟩ => ?_
  have bel : Below W.heap.size W W' := hp.below
  subst he
  exact ⟨_, rfl, _, _, _, [], _, [], hW', trodAll_mk1 (shut_bool Tryd.underlying4 _), (trodAll_cons_mk (Below.trod laidOut (by kernel_rfl) (of_decide_eq_true (by kernel_rfl)) k0 bel lt0) (trodAll_cons_mk (Below.trod laidOut (by kernel_rfl) (of_decide_eq_true (by kernel_rfl)) k1 bel lt1) (trodAll_cons_mk (Below.trod laidOut (by kernel_rfl) (of_decide_eq_true (by kernel_rfl)) k2 bel lt2) (trodAll_cons_mk (Below.trod laidOut (by kernel_rfl) (of_decide_eq_true (by kernel_rfl)) k3 bel lt3) trodAll_mk0)))), rfl, bel.frame _, fun h => by cases h⟩
theorem over : Rows.aeadSumsRow.holds Tryd.pinned (OpenSpec.ofChange Rows.aeadSumsSpec) :=
  OpenClaim.holds_of_wide 13 Tryd.f13 rfl rfl rfl rfl rfl rfl rfl ⟨rfl, rfl, rfl, rfl, rfl⟩ rfl rfl rfl rfl rfl (by kernel_rfl) Tryd.func13 (by kernel_rfl)
    (of_decide_eq_true (by kernel_rfl)) (by unfold Func.isWrapper; first | (rw [if_pos (by decide +kernel)]; kernel_rfl) | (rw [if_neg (by decide +kernel)]; exact ⟨rfl, rfl⟩))
    (fun os started H enc _ => lifted os started H enc)
end aeadSums
/-- The statement. -/
theorem aeadSumsProved : Rows.AeadSumsCardSaid :=
  Claim7.holds_tied_plain_at .later [] [.data] true (true, "3370d27d9255588c3956976426ca7d2b61d4b9f8ebcd526ac9795ba27740e44b") false
    aeadSums.over (fun _ h => by cases h) (by kernel_rfl) (fun _ h => by cases h) aeadSums_row_tie rfl ⟨rfl, rfl⟩ (by kernel_rfl) rfl
    (fun f fn hf hfn => by
      obtain rfl : f = 13 := Option.some.inj ((show Tryd.prog.funcNamed "hatchway/hatchwaylaw04.AeadSums" = some 13 by kernel_rfl).symm.trans hf) |>.symm
      obtain rfl : fn = Tryd.f13 := (Option.some.inj (Tryd.func13.symm.trans hfn)).symm
      exact ⟨by kernel_rfl, fun j t ht => by
        rw [Tryd.params13] at ht
        have hm : t ∈ [23, 26, 27, 27] := by simpa using Array.mem_of_getElem? ht
        have hall : ([23, 26, 27, 27].all fun u => !Tryd.prog.wantsStandIn u) = true := by kernel_rfl
        exact (show Tryd.prog.wantsStandIn t = false by simpa using List.all_eq_true.1 hall t hm)⟩)
    (by kernel_rfl)
end Go.Proofs.YtnhfmmohdiccgaaDoor
