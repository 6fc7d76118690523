/-
  hatchwaylaw03.PolyClamps returns true, whatever its arguments. (Printed by a program of this session over its walk printer.)
-/
import Derived.Test.YtnhfmmohdiccgaaRows
import Derived.Test.YtnhfmmohdiccgaaLaw3
namespace Go.Proofs.Ytnhfmmohdiccgaa
open Go.Sym Plain
set_option linter.unusedVariables false

theorem polyClamps_run (p : Option Addr) (m c : Nat) (key xs : List (BitVec 8)) (CH : BitVec 32) (w : World) (hk : key.length = 32) (hx : Bytes w p m c xs) :
    Calls Try.prog 13 [.agg (key.map U8).toArray, .slice p m c, U32 CH].toArray w fun r w' => r = .returned (.bool true) ∧ Hp w [] [] w' := by
  obtain ⟨k, hkk⟩ : ∃ k, k = Nat.min m 200 := ⟨_, rfl⟩
  have hk1 : k ≤ m := by rw [hkk]; exact Nat.min_le_left _ _
  have hk2 : k ≤ 200 := by rw [hkk]; exact Nat.min_le_right _ _
  have hb := hx.part hk1
  have hle := hx.le
  have hmx := hx.max
  refine Tr.enter Try.func13 rfl Try.ntmps13 rfl (Hp.refl w) ?_
  refine Tr.seq ?_
  refine Tr.region ?_
  refine Tr.op (W.box (cs := key.map U8) rfl rfl rfl fun g3 => ?_)
  refine Tr.val (V.assign rfl) rfl ?_
  refine Tr.lNil ?_
  refine Tr.thenN ?_
  refine Tr.seq ?_
  refine Tr.region ?_
  refine Tr.op (W.call1 (args0) Try.call35 rfl (fun w1 _ => shown3_true w1) ?_)
  refine Tr.val (V.assign rfl) rfl ?_
  refine Tr.lNil ?_
  refine Tr.thenN ?_
  refine Tr.seq ?_
  refine Tr.region ?_
  refine Tr.val (V.move rfl) rfl ?_
  refine Tr.val (V.move rfl) rfl ?_
  refine Tr.val (V.len Try.runUnderlying22 rfl) rfl ?_
  refine Tr.val ((by rw [hkk]; exact V.minN (b := 200) rfl rfl : VOp Try.prog _ _ _ _ _ _ _ (.int .i64 (k : Int)))) rfl ?_
  refine Tr.val (V.cut Try.runUnderlying22 Try.sizeOf5 rfl rfl (by omega)) rfl ?_
  refine Tr.val (V.assign rfl) rfl ?_
  refine Tr.lNil ?_
  refine Tr.thenN ?_
  refine Tr.seq ?_
  refine Tr.region ?_
  refine Tr.val (V.loadN (cs := key.map U8) Try.isAgg52 (by rw [List.length_map, hk]; exact Try.sizeOf52) rfl (V.cellsB (by repeat (first | exact List.Mem.head _ | apply List.Mem.tail)))) rfl ?_
  refine Tr.val (V.move rfl) rfl ?_
  refine Tr.op (W.call1 (args2 rfl rfl) Try.call36 rfl (fun w1 hw => sum_any p k c key (xs.take k) w1 hk (hb.now hw)) ?_)
  refine Tr.op (W.alloc (cs := (List.replicate 16 0#8).map U8) Try.zeroValue53 rfl rfl fun g8 => ?_)
  refine Tr.op (W.storeAll (vs := (polyTag key (xs.take k)).map U8) (cs := (List.replicate 16 0#8).map U8) Try.sizeOf53 rfl rfl (by rw [List.length_map, polyTag_len]) rfl (one8 _) (by repeat (first | exact Upd.head | apply Upd.tail)) ?_)
  refine Tr.lNil ?_
  refine Tr.thenN ?_
  refine Tr.seq ?_
  refine Tr.seq ?_
  refine Tr.region ?_
  refine Tr.val (V.assign rfl) rfl ?_
  refine Tr.lNil ?_
  refine Tr.thenN ?_
  refine Tr.block ?_
  refine Tr.loop (ι := Nat × List (BitVec 8) × BitVec 32) (fun x => x.1 % 4 = 3 ∧ x.1 ≤ 19 ∧ 3 ≤ x.1 ∧ x.2.1.length = 32 ∧ polyR x.2.1 = polyR key ∧ polyS x.2.1 = polyS key) (fun x => [(1, .slice p k c), (2, U32 x.2.2), (3, .pointer (some ⟨g3, 0, none⟩)), (7, .bool true), (8, .pointer (some ⟨g8, 0, none⟩)), (9, .int .i64 (x.1 : Int))]) (fun x => [⟨g8, 53, (polyTag key (xs.take k)).map U8⟩, ⟨g3, 52, x.2.1.map U8⟩]) (fun x => 20 - x.1) (3, key, CH) ⟨show 3 % 4 = 3 by decide, show 3 ≤ 19 by decide, show 3 ≤ 3 by decide, hk, rfl, rfl⟩ (lk_cons rfl (lk_cons rfl (lk_cons rfl (lk_cons rfl (lk_cons rfl (lk_cons rfl (lk_nil _))))))) (List.Sublist.refl _) fun x hI => ?_
  obtain ⟨i, K, ch⟩ := x
  obtain ⟨hi4, hi19, hi3, hKl, hKR, hKS⟩ := hI
  simp only at hi4 hi19 hi3 hKl hKR hKS ⊢
  refine Tr.seq ?_
  refine Tr.seq ?_
  refine Tr.region ?_
  refine Tr.val (V.move rfl) rfl ?_
  refine Tr.val (V.lss rfl rfl rfl) rfl ?_
  refine Tr.lNil ?_
  refine Tr.thenN ?_
  refine Tr.cond rfl (fun hT0 => ?_) (fun hF0 => ?_)
  · simp only [decide_eq_true_eq] at hT0
    have hlt : i < 16 := by omega
    obtain ⟨a, ha⟩ : ∃ a, K[i]? = some a := ⟨_, List.getElem?_eq_getElem (by omega)⟩
    have hR1 := polyR_set K i (a ^^^ (ch.setWidth 8) <<< 4) a _ hlt ha (mask3 i hlt (by omega)) (free15 _ _)
    have hS1 := polyS_set K i (a ^^^ (ch.setWidth 8) <<< 4) hlt
    refine Tr.skip ?_
    refine Tr.thenN ?_
    refine Tr.seq ?_
    refine Tr.block ?_
    refine Tr.seq ?_
    refine Tr.region ?_
    refine Tr.val (V.move rfl) rfl ?_
    refine Tr.val (V.move rfl) rfl ?_
    refine Tr.val (V.idxA (j := i) (o' := i) Try.runUnderlying52 Try.sizeOf5 rfl rfl (by omega) (by omega) (by omega)) rfl ?_
    refine Tr.val (V.load1 Try.isAgg5 rfl (V.cellB (by repeat (first | exact List.Mem.head _ | apply List.Mem.tail)) (by rw [List.getElem?_map, ha]; rfl))) rfl ?_
    refine Tr.val (V.move rfl) rfl ?_
    refine Tr.val (V.conv32_8 Try.runUnderlying29 Try.runUnderlying5 rfl) rfl ?_
    refine Tr.val (V.shl8 (s := 4) rfl rfl) rfl ?_
    refine Tr.val (V.xor8 rfl rfl) rfl ?_
    refine Tr.val (V.idxA (j := i) (o' := i) Try.runUnderlying52 Try.sizeOf5 rfl rfl (by omega) (by omega) (by omega)) rfl ?_
    refine Tr.op (W.store1E (cs := K.map U8) (v := U8 (a ^^^ (ch.setWidth 8) <<< 4)) (cs' := (K.set i (a ^^^ (ch.setWidth 8) <<< 4)).map U8) Try.sizeOf5 rfl rfl rfl rfl (by rw [List.map_set]) (by repeat (first | exact Upd.head | apply Upd.tail)) (by rw [List.length_map]; omega) ?_)
    refine Tr.lNil ?_
    refine Tr.thenN ?_
    refine Tr.region ?_
    refine Tr.val (V.move rfl) rfl ?_
    refine Tr.val (V.shr32 (s := 4) rfl rfl) rfl ?_
    refine Tr.val (V.assign rfl) rfl ?_
    refine Tr.lNil ?_
    refine Tr.inN ?_
    refine Tr.thenN ?_
    refine Tr.region ?_
    refine Tr.val (V.move rfl) rfl ?_
    refine Tr.val (V.add rfl rfl (by omega)) rfl ?_
    refine Tr.val (V.assign rfl) rfl ?_
    refine Tr.lNil ?_
    exact Tr.again (i + 4, K.set i (a ^^^ (ch.setWidth 8) <<< 4), ch >>> 4) ⟨by simp only; omega, by simp only; omega, by simp only; omega, by simp only [List.length_set]; exact hKl, by simp only; rw [hR1]; exact hKR, by simp only; rw [hS1]; exact hKS⟩ (by simp only; omega) (lk_cons rfl (lk_cons rfl (lk_cons rfl (lk_cons rfl (lk_cons rfl (lk_cons rfl (lk_nil _))))))) (List.Sublist.refl _)
  · simp only [decide_eq_false_iff_not] at hF0
    refine Tr.exit ?_
    refine Tr.thenX ?_
    refine Tr.thenX ?_
    refine Tr.inHit ?_
    refine Tr.thenN ?_
    refine Tr.seq ?_
    refine Tr.seq ?_
    refine Tr.region ?_
    refine Tr.val (V.assign rfl) rfl ?_
    refine Tr.lNil ?_
    refine Tr.thenN ?_
    refine Tr.block ?_
    refine Tr.loop (ι := Nat × List (BitVec 8) × BitVec 32) (fun x => x.1 % 4 = 0 ∧ x.1 ≤ 16 ∧ 3 ≤ x.1 ∧ x.2.1.length = 32 ∧ polyR x.2.1 = polyR key ∧ polyS x.2.1 = polyS key) (fun x => [(1, .slice p k c), (2, U32 x.2.2), (3, .pointer (some ⟨g3, 0, none⟩)), (7, .bool true), (8, .pointer (some ⟨g8, 0, none⟩)), (10, .int .i64 (x.1 : Int))]) (fun x => [⟨g8, 53, (polyTag key (xs.take k)).map U8⟩, ⟨g3, 52, x.2.1.map U8⟩]) (fun x => 20 - x.1) (4, K, ch) ⟨show 4 % 4 = 0 by decide, show 4 ≤ 16 by decide, show 3 ≤ 4 by decide, hKl, hKR, hKS⟩ (lk_cons rfl (lk_cons rfl (lk_cons rfl (lk_cons rfl (lk_cons rfl (lk_cons rfl (lk_nil _))))))) (List.Sublist.refl _) fun x hI => ?_
    clear hKl hKR hKS
    obtain ⟨i, K, ch⟩ := x
    obtain ⟨hi4, hi19, hi3, hKl, hKR, hKS⟩ := hI
    simp only at hi4 hi19 hi3 hKl hKR hKS ⊢
    refine Tr.seq ?_
    refine Tr.seq ?_
    refine Tr.region ?_
    refine Tr.val (V.move rfl) rfl ?_
    refine Tr.val (V.lss rfl rfl rfl) rfl ?_
    refine Tr.lNil ?_
    refine Tr.thenN ?_
    refine Tr.cond rfl (fun hT1 => ?_) (fun hF1 => ?_)
    · simp only [decide_eq_true_eq] at hT1
      have hlt : i < 16 := by omega
      obtain ⟨a, ha⟩ : ∃ a, K[i]? = some a := ⟨_, List.getElem?_eq_getElem (by omega)⟩
      have hR1 := polyR_set K i (a ^^^ (ch.setWidth 8 &&& 3#8)) a _ hlt ha (mask4 i hlt (by omega) (by omega)) (free252 _ _)
      have hS1 := polyS_set K i (a ^^^ (ch.setWidth 8 &&& 3#8)) hlt
      refine Tr.skip ?_
      refine Tr.thenN ?_
      refine Tr.seq ?_
      refine Tr.block ?_
      refine Tr.seq ?_
      refine Tr.region ?_
      refine Tr.val (V.move rfl) rfl ?_
      refine Tr.val (V.move rfl) rfl ?_
      refine Tr.val (V.idxA (j := i) (o' := i) Try.runUnderlying52 Try.sizeOf5 rfl rfl (by omega) (by omega) (by omega)) rfl ?_
      refine Tr.val (V.load1 Try.isAgg5 rfl (V.cellB (by repeat (first | exact List.Mem.head _ | apply List.Mem.tail)) (by rw [List.getElem?_map, ha]; rfl))) rfl ?_
      refine Tr.val (V.move rfl) rfl ?_
      refine Tr.val (V.conv32_8 Try.runUnderlying29 Try.runUnderlying5 rfl) rfl ?_
      refine Tr.val (V.and8 (Y := 3#8) rfl rfl) rfl ?_
      refine Tr.val (V.xor8 rfl rfl) rfl ?_
      refine Tr.val (V.idxA (j := i) (o' := i) Try.runUnderlying52 Try.sizeOf5 rfl rfl (by omega) (by omega) (by omega)) rfl ?_
      refine Tr.op (W.store1E (cs := K.map U8) (v := U8 (a ^^^ (ch.setWidth 8 &&& 3#8))) (cs' := (K.set i (a ^^^ (ch.setWidth 8 &&& 3#8))).map U8) Try.sizeOf5 rfl rfl rfl rfl (by rw [List.map_set]) (by repeat (first | exact Upd.head | apply Upd.tail)) (by rw [List.length_map]; omega) ?_)
      refine Tr.lNil ?_
      refine Tr.thenN ?_
      refine Tr.region ?_
      refine Tr.val (V.move rfl) rfl ?_
      refine Tr.val (V.shr32 (s := 2) rfl rfl) rfl ?_
      refine Tr.val (V.assign rfl) rfl ?_
      refine Tr.lNil ?_
      refine Tr.inN ?_
      refine Tr.thenN ?_
      refine Tr.region ?_
      refine Tr.val (V.move rfl) rfl ?_
      refine Tr.val (V.add rfl rfl (by omega)) rfl ?_
      refine Tr.val (V.assign rfl) rfl ?_
      refine Tr.lNil ?_
      exact Tr.again (i + 4, K.set i (a ^^^ (ch.setWidth 8 &&& 3#8)), ch >>> 2) ⟨by simp only; omega, by simp only; omega, by simp only; omega, by simp only [List.length_set]; exact hKl, by simp only; rw [hR1]; exact hKR, by simp only; rw [hS1]; exact hKS⟩ (by simp only; omega) (lk_cons rfl (lk_cons rfl (lk_cons rfl (lk_cons rfl (lk_cons rfl (lk_cons rfl (lk_nil _))))))) (List.Sublist.refl _)
    · simp only [decide_eq_false_iff_not] at hF1
      have hTag : polyTag K (xs.take k) = polyTag key (xs.take k) := by unfold polyTag; rw [hKR, hKS]
      refine Tr.exit ?_
      refine Tr.thenX ?_
      refine Tr.thenX ?_
      refine Tr.inHit ?_
      refine Tr.thenN ?_
      refine Tr.seq ?_
      refine Tr.regionD [0, 1, 3, 3, 15, 3, 63, 127, 255] [] (.pure 0 (.pure 1 (.soft 2 (.pure 3 (.soft 4 (.soft 5 (.pure 6 (.pure 7 (.pure 8 .done))))))))) mixed (by kernel_rfl) ?_
      refine TrP.pure rfl (fun _ => V.move rfl) rfl ?_
      refine TrP.pure rfl (fun _ => V.move rfl) rfl ?_
      refine TrP.softG rfl rfl (V.loadN (cs := K.map U8) Try.isAgg52 (by rw [List.length_map, hKl]; exact Try.sizeOf52) rfl (V.cellsB (by repeat (first | exact List.Mem.head _ | apply List.Mem.tail)))) rfl ?_
      refine TrP.pureG rfl rfl (fun _ => V.move rfl) rfl ?_
      refine TrP.callG rfl rfl (args2 rfl rfl) Try.call36 rfl (fun w1 hw => by have h := sum_any p k c K (xs.take k) w1 hKl (hb.now hw); rw [hTag] at h; exact h) ?_
      refine TrP.softG rfl rfl (V.loadN (cs := (polyTag key (xs.take k)).map U8) Try.isAgg53 (by rw [List.length_map, polyTag_len]; exact Try.sizeOf53) rfl (V.cellsB (by repeat (first | exact List.Mem.head _ | apply List.Mem.tail)))) rfl ?_
      refine TrP.pureG rfl rfl (fun _ => V.eqlA (b := true) arr53 rfl rfl (polyTag_len _ _) (polyTag_len _ _) (by simp)) rfl ?_
      refine TrP.pure rfl (fun _ => V.pick rfl rfl) rfl ?_
      refine TrP.pure rfl (fun _ => V.assign rfl) rfl ?_
      refine TrP.done ?_
      refine Tr.thenN ?_
      refine Tr.ret ?_
      refine Tr.out1 rfl (Res.tmp rfl) fun w hw => ?_
      exact ⟨rfl, hw.sub (List.nil_sublist _)⟩

theorem polyClamps_walk (x0 : List (BitVec 8)) (a1 : Option Addr) (len1 cap1 : Nat) (z1 : List Int) (a2 : Int) (w : World) (l0 : x0.length = 32) (w1 : IsRow .u8 w a1 len1 cap1 z1) (w2 : (Lit.int .u32 a2).wf = true) :
    Calls Try.prog 13 #[.agg (x0.map U8).toArray, .slice a1 len1 cap1, .int .u32 a2] w fun r w' => r = .returned (.bool true) ∧ Hp w [] [] w' := by
  obtain ⟨xs, hx⟩ := w1.bytes
  obtain ⟨X, rfl⟩ := wf32 w2
  exact polyClamps_run a1 len1 cap1 x0 xs X w l0 hx
namespace polyClamps
open Go.ChangeShapes Go.WideShapes Go.ChangeAt Go.RowKit Go.Sym
theorem own : ownKnob Try.prog.godebug = none := by kernel_rfl
theorem laidOut : laidOutB Try.prog = true := by kernel_rfl
set_option maxRecDepth 100000 in
theorem lifted (os : Os) (started : os.Started) (H : Type) (enc : TypeId × Value → H) :
    ReturnsInHanded {} Try.checked os 13 .any (Rows.polyClampsSpec.pre6 enc Try.prog Try.f13 Rows.polyClampsRow.domain false) (Rows.polyClampsSpec.post enc Try.prog Try.f13 false true false false) := by
  refine returnsInHanded_of_change (C := Try.checked) own started (by kernel_rfl) Try.func13
    (ChangeSpec.witness6 (enc := enc) (C := Try.checked) false ⟨#[], #[.agg #[.int .u8 0, .int .u8 0, .int .u8 0, .int .u8 0, .int .u8 0, .int .u8 0, .int .u8 0, .int .u8 0, .int .u8 0, .int .u8 0, .int .u8 0, .int .u8 0, .int .u8 0, .int .u8 0, .int .u8 0, .int .u8 0, .int .u8 0, .int .u8 0, .int .u8 0, .int .u8 0, .int .u8 0, .int .u8 0, .int .u8 0, .int .u8 0, .int .u8 0, .int .u8 0, .int .u8 0, .int .u8 0, .int .u8 0, .int .u8 0, .int .u8 0, .int .u8 0], .slice none 0 0, .int .u32 0], []⟩ 8 (by kernel_rfl) (by kernel_rfl) (by kernel_rfl) (by kernel_rfl)) ?_
  intro W base args ds gs before hval0 hW hcnd _
  have hval : ∀ (j : Nat) t v, Try.f13.params[j]? = some t → args[j]? = some v → Value.okWide Try.prog W .any base t v := hval0
  have hW' := hW
  obtain ⟨p, q, hA0, hV, rfl, hfz, hnd⟩ := hW
  have hA : DataW.TrodAll enc Try.prog W 0 (fun _ => true) true Try.f13.params.toList args.toList ds p := hA0
  rw [Try.params13] at hA hval
  obtain ⟨v0, vs0, d0, ds0, p0, q0, hargs, rfl, rfl, h0, r0⟩ := trodAll_cons hA
  obtain ⟨v1, vs1, d1, ds1, p1, q1, rfl, rfl, rfl, h1, r1⟩ := trodAll_cons r0
  obtain ⟨v2, vs2, d2, ds2, p2, q2, rfl, rfl, rfl, h2, r2⟩ := trodAll_cons r1
  obtain ⟨rfl, rfl, rfl⟩ := trodAll_nil r2
  obtain rfl : args = #[v0, v1, v2] := by cases args; simp_all
  obtain ⟨rfl, rfl⟩ := trodVars_none hV
  have k0 := h0
  have lt0 : ∀ x ∈ p0, x.block < W.heap.size := by obtain ⟨m, hm⟩ := k0; exact DataW.trod_lt m _ _ _ hm
  obtain ⟨x0, l0, rfl⟩ := open_bytesArr Try.underlying52 Try.underlying5 (by kernel_rfl) (by kernel_rfl) (hval 0 52 v0 rfl rfl) h0
  obtain ⟨a1, len1, cap1, rfl⟩ := okWide_slice Try.underlying22 (hval 1 22 v1 rfl rfl)
  have k1 := h1
  have lt1 : ∀ x ∈ p1, x.block < W.heap.size := by obtain ⟨m, hm⟩ := k1; exact DataW.trod_lt m _ _ _ hm
  obtain ⟨z1, w1⟩ : ∃ zs, IsRow .u8 W a1 len1 cap1 zs := by
    obtain ⟨fuel, hf⟩ := h1
    rcases open_ints Try.underlying22 Try.underlying5 (by kernel_rfl) hf with ⟨hcs, _⟩ | ⟨x, l, c, zs, hcs, _, hl, hm, hz, _, hcell, hwz⟩
    · simp [Value.cells] at hcs
      obtain ⟨rfl, rfl, rfl⟩ := hcs
      exact ⟨[], .inl ⟨rfl, rfl, rfl, rfl⟩⟩
    · simp [Value.cells] at hcs
      obtain ⟨rfl, rfl, rfl⟩ := hcs
      exact ⟨zs, .inr ⟨_, rfl, hl, hm, by simpa using hz, hcell, hwz⟩⟩
  obtain ⟨a2, rfl, rfl, rfl, w2⟩ := open_int Try.underlying29 (hval 2 29 v2 rfl rfl) h2
  clear hA0 hval0
  refine (polyClamps_walk x0 a1 len1 cap1 z1 a2 W l0 w1 w2).mono fun e W' ⟨he, hp⟩ => ?_
  have bel : Below W.heap.size W W' := hp.below
  subst he
  exact ⟨_, rfl, _, _, _, [], _, [], hW', trodAll_mk1 (shut_bool Try.underlying4 _), (trodAll_cons_mk (Below.trod laidOut (by kernel_rfl) (of_decide_eq_true (by kernel_rfl)) k0 bel lt0) (trodAll_cons_mk (Below.trod laidOut (by kernel_rfl) (of_decide_eq_true (by kernel_rfl)) k1 bel lt1) (trodAll_cons_mk (shut_int Try.underlying29 w2) trodAll_mk0))), rfl, bel.frame _, fun h => by cases h⟩
theorem over : Rows.polyClampsRow.holds Try.pinned (OpenSpec.ofChange Rows.polyClampsSpec) :=
  OpenClaim.holds_of_wide 13 Try.f13 rfl rfl rfl rfl rfl rfl rfl ⟨rfl, rfl, rfl, rfl, rfl⟩ rfl rfl rfl rfl rfl (by kernel_rfl) Try.func13 (by kernel_rfl)
    (of_decide_eq_true (by kernel_rfl)) (by unfold Func.isWrapper; first | (rw [if_pos (by decide +kernel)]; kernel_rfl) | (rw [if_neg (by decide +kernel)]; exact ⟨rfl, rfl⟩))
    (fun os started H enc _ => lifted os started H enc)
end polyClamps
/-- The statement. -/
theorem polyClampsProved : Rows.PolyClampsSaid := polyClamps.over
end Go.Proofs.Ytnhfmmohdiccgaa
