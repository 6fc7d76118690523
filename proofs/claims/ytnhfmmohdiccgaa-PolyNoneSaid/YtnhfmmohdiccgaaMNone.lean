/-
  hatchwaylaw03.PolyNone returns true, whatever its arguments. (Printed by a program of this session over its walk printer.)
-/
import Derived.Test.YtnhfmmohdiccgaaRows
import Derived.Test.YtnhfmmohdiccgaaLaw3
namespace Go.Proofs.Ytnhfmmohdiccgaa
open Go.Sym Plain
set_option linter.unusedVariables false

theorem polyNone_run (half : List (BitVec 8)) (p : Option Addr) (m c : Nat) (xs key : List (BitVec 8)) (w : World) (hh : half.length = 16) (hx : Bytes w p m c xs) (hk : key.length = 32) :
    Calls Try.prog 15 [.agg (half.map U8).toArray, .slice p m c, .agg (key.map U8).toArray].toArray w fun r w' => r = .returned (.bool true) ∧ Hp w [] [] w' := by
  obtain ⟨k, hkk⟩ : ∃ k, k = Nat.min m 200 := ⟨_, rfl⟩
  have hk1 : k ≤ m := by rw [hkk]; exact Nat.min_le_left _ _
  have hk2 : k ≤ 200 := by rw [hkk]; exact Nat.min_le_right _ _
  have hb := hx.part hk1
  have hle := hx.le
  have hmx := hx.max
  obtain ⟨za, hza⟩ : ∃ f : Nat → List (BitVec 8), f = fillAt (List.replicate 32 0#8) half := ⟨_, rfl⟩
  obtain ⟨kb, hkb⟩ : ∃ f : Nat → List (BitVec 8), f = fillAt key half := ⟨_, rfl⟩
  have hzl : ∀ j, j ≤ 16 → (za j).length = 32 := fun j hj => by rw [hza]; exact fillAt_len _ _ j (by simp) hh hj
  have hkl : ∀ j, j ≤ 16 → (kb j).length = 32 := fun j hj => by rw [hkb]; exact fillAt_len _ _ j hk hh hj
  have hz0 : za 0 = List.replicate 32 0#8 := by rw [hza]; exact fillAt_zero _ _
  have hk0 : kb 0 = key := by rw [hkb]; exact fillAt_zero _ _
  have hZ : polyTag (za 16) (xs.take k) = half := by
    rw [hza]
    exact tag_noFactor _ _ half hh (fillAt_all _ half (by simp) hh).2 (by unfold polyR; rw [(fillAt_all _ half (by simp) hh).1, List.take_replicate]; exact andL_zeros _ _)
  have hK : polyTag (kb 16) [] = half := by
    rw [hkb]
    exact tag_noText _ half hh (fillAt_all _ half hk hh).2
  refine Tr.enter Try.func15 rfl Try.ntmps15 rfl (Hp.refl w) ?_
  refine Tr.seq ?_
  refine Tr.region ?_
  refine Tr.op (W.box (cs := half.map U8) rfl rfl rfl fun g3 => ?_)
  refine Tr.op (W.box (cs := key.map U8) rfl rfl rfl fun g5 => ?_)
  refine Tr.val (V.assign rfl) rfl ?_
  refine Tr.lNil ?_
  refine Tr.thenN ?_
  refine Tr.seq ?_
  refine Tr.region ?_
  refine Tr.op (W.call1 (args0) Try.call35 rfl (fun w1 _ => shown3_true w1) ?_)
  refine Tr.val (V.assign rfl) rfl ?_
  refine Tr.lNil ?_
  refine Tr.thenN ?_
  refine Tr.seq ?_
  refine Tr.region ?_
  refine Tr.val (V.move rfl) rfl ?_
  refine Tr.val (V.move rfl) rfl ?_
  refine Tr.val (V.len Try.runUnderlying22 rfl) rfl ?_
  refine Tr.val ((by rw [hkk]; exact V.minN (b := 200) rfl rfl : VOp Try.prog _ _ _ _ _ _ _ (.int .i64 (k : Int)))) rfl ?_
  refine Tr.val (V.cut Try.runUnderlying22 Try.sizeOf5 rfl rfl (by omega)) rfl ?_
  refine Tr.val (V.assign rfl) rfl ?_
  refine Tr.lNil ?_
  refine Tr.thenN ?_
  refine Tr.seq ?_
  refine Tr.region ?_
  refine Tr.op (W.alloc (cs := (List.replicate 32 0#8).map U8) Try.zeroValue52 rfl rfl fun g8 => ?_)
  refine Tr.lNil ?_
  refine Tr.thenN ?_
  refine Tr.seq ?_
  refine Tr.seq ?_
  refine Tr.region ?_
  refine Tr.val (V.assign rfl) rfl ?_
  refine Tr.lNil ?_
  refine Tr.thenN ?_
  refine Tr.block ?_
  refine Tr.loop (ι := Nat) (fun j => j ≤ 16) (fun j => [(1, .slice p k c), (3, .pointer (some ⟨g3, 0, none⟩)), (5, .pointer (some ⟨g5, 0, none⟩)), (7, .bool true), (8, .pointer (some ⟨g8, 0, none⟩)), (9, .int .i64 (j : Int))]) (fun j => [⟨g8, 52, (za j).map U8⟩, ⟨g5, 52, (kb j).map U8⟩, ⟨g3, 53, half.map U8⟩]) (fun j => 16 - j) 0 (Nat.zero_le _) (lk_cons rfl (lk_cons rfl (lk_cons rfl (lk_cons rfl (lk_cons rfl (lk_cons rfl (lk_nil _))))))) (by rw [hz0, hk0]; exact List.Sublist.refl _) fun j hI => ?_
  refine Tr.seq ?_
  refine Tr.seq ?_
  refine Tr.region ?_
  refine Tr.val (V.move rfl) rfl ?_
  refine Tr.val (V.lss rfl rfl rfl) rfl ?_
  refine Tr.lNil ?_
  refine Tr.thenN ?_
  refine Tr.cond rfl (fun hT0 => ?_) (fun hF0 => ?_)
  · simp only [decide_eq_true_eq] at hT0
    have hlt : j < 16 := by omega
    obtain ⟨a, ha⟩ : ∃ a, half[j]? = some a := ⟨_, List.getElem?_eq_getElem (by omega)⟩
    have hset1 : (za j).set (16 + j) a = za (j + 1) := by rw [hza]; exact fillAt_set _ half j a (by simp) hh hlt ha
    have hset2 : (kb j).set (16 + j) a = kb (j + 1) := by rw [hkb]; exact fillAt_set _ half j a hk hh hlt ha
    refine Tr.skip ?_
    refine Tr.thenN ?_
    refine Tr.seq ?_
    refine Tr.block ?_
    refine Tr.seq ?_
    refine Tr.region ?_
    refine Tr.val (V.move rfl) rfl ?_
    refine Tr.val (V.addN (a := 16) rfl rfl (by omega)) rfl ?_
    refine Tr.val (V.move rfl) rfl ?_
    refine Tr.val (V.idxA (j := j) (o' := j) Try.runUnderlying53 Try.sizeOf5 rfl rfl (by omega) (by omega) (by omega)) rfl ?_
    refine Tr.val (V.load1 Try.isAgg5 rfl (V.cellB (by repeat (first | exact List.Mem.head _ | apply List.Mem.tail)) (by rw [List.getElem?_map, ha]; rfl))) rfl ?_
    refine Tr.val (V.idxA (j := (16 + j)) (o' := (16 + j)) Try.runUnderlying52 Try.sizeOf5 rfl rfl (by omega) (by omega) (by omega)) rfl ?_
    refine Tr.op (W.store1E (cs := (za j).map U8) (v := U8 a) (cs' := (za (j + 1)).map U8) Try.sizeOf5 rfl rfl rfl rfl (by rw [← hset1, List.map_set]) (by repeat (first | exact Upd.head | apply Upd.tail)) (by rw [List.length_map, hzl j (by omega)]; omega) ?_)
    refine Tr.lNil ?_
    refine Tr.thenN ?_
    refine Tr.region ?_
    refine Tr.val (V.move rfl) rfl ?_
    refine Tr.val (V.addN (a := 16) rfl rfl (by omega)) rfl ?_
    refine Tr.val (V.move rfl) rfl ?_
    refine Tr.val (V.idxA (j := j) (o' := j) Try.runUnderlying53 Try.sizeOf5 rfl rfl (by omega) (by omega) (by omega)) rfl ?_
    refine Tr.val (V.load1 Try.isAgg5 rfl (V.cellB (by repeat (first | exact List.Mem.head _ | apply List.Mem.tail)) (by rw [List.getElem?_map, ha]; rfl))) rfl ?_
    refine Tr.val (V.idxA (j := (16 + j)) (o' := (16 + j)) Try.runUnderlying52 Try.sizeOf5 rfl rfl (by omega) (by omega) (by omega)) rfl ?_
    refine Tr.op (W.store1E (cs := (kb j).map U8) (v := U8 a) (cs' := (kb (j + 1)).map U8) Try.sizeOf5 rfl rfl rfl rfl (by rw [← hset2, List.map_set]) (by repeat (first | exact Upd.head | apply Upd.tail)) (by rw [List.length_map, hkl j (by omega)]; omega) ?_)
    refine Tr.lNil ?_
    refine Tr.inN ?_
    refine Tr.thenN ?_
    refine Tr.region ?_
    refine Tr.val (V.move rfl) rfl ?_
    refine Tr.val (V.add rfl rfl (by omega)) rfl ?_
    refine Tr.val (V.assign rfl) rfl ?_
    refine Tr.lNil ?_
    exact Tr.again (j + 1) (by omega) (by omega) (lk_cons rfl (lk_cons rfl (lk_cons rfl (lk_cons rfl (lk_cons rfl (lk_cons rfl (lk_nil _))))))) (List.Sublist.refl _)
  · simp only [decide_eq_false_iff_not] at hF0
    obtain rfl : j = 16 := by omega
    refine Tr.exit ?_
    refine Tr.thenX ?_
    refine Tr.thenX ?_
    refine Tr.inHit ?_
    refine Tr.thenN ?_
    refine Tr.seq ?_
    refine Tr.regionD [0, 1, 3, 3, 15, 3, 63, 127, 255, 511, 1023, 511, 4095, 8191, 16383] [] (.pure 0 (.pure 1 (.soft 2 (.pure 3 (.soft 4 (.soft 5 (.pure 6 (.pure 7 (.pure 8 (.soft 9 (.soft 10 (.soft 11 (.pure 12 (.pure 13 (.pure 14 .done))))))))))))))) mixed (by kernel_rfl) ?_
    refine TrP.pure rfl (fun _ => V.move rfl) rfl ?_
    refine TrP.pure rfl (fun _ => V.move rfl) rfl ?_
    refine TrP.softG rfl rfl (V.loadN (cs := (za 16).map U8) Try.isAgg52 (by rw [List.length_map, hzl 16 (by omega)]; exact Try.sizeOf52) rfl (V.cellsB (by repeat (first | exact List.Mem.head _ | apply List.Mem.tail)))) rfl ?_
    refine TrP.pureG rfl rfl (fun _ => V.move rfl) rfl ?_
    refine TrP.callG rfl rfl (args2 rfl rfl) Try.call36 rfl (fun w1 hw => by have h := sum_any p k c (za 16) (xs.take k) w1 (hzl 16 (by omega)) (hb.now hw); rw [hZ] at h; exact h) ?_
    refine TrP.softG rfl rfl (V.loadN (cs := half.map U8) Try.isAgg53 (by rw [List.length_map, hh]; exact Try.sizeOf53) rfl (V.cellsB (by repeat (first | exact List.Mem.head _ | apply List.Mem.tail)))) rfl ?_
    refine TrP.pureG rfl rfl (fun _ => V.eqlA (b := true) arr53 rfl rfl hh hh (by simp)) rfl ?_
    refine TrP.pure rfl (fun _ => V.pick rfl rfl) rfl ?_
    refine TrP.pure rfl (fun _ => V.move rfl) rfl ?_
    refine TrP.softG rfl rfl (V.loadN (cs := (kb 16).map U8) Try.isAgg52 (by rw [List.length_map, hkl 16 (by omega)]; exact Try.sizeOf52) rfl (V.cellsB (by repeat (first | exact List.Mem.head _ | apply List.Mem.tail)))) rfl ?_
    refine TrP.callG rfl rfl (args2 rfl rfl) Try.call36 rfl (fun w1 hw => by have h := sum_any none 0 0 (kb 16) [] w1 (hkl 16 (by omega)) ⟨(fun j u h => by simp at h), rfl, Nat.le_refl _, by omega, fun _ => ⟨rfl, rfl, rfl⟩⟩; rw [hK] at h; exact h) ?_
    refine TrP.softG rfl rfl (V.loadN (cs := half.map U8) Try.isAgg53 (by rw [List.length_map, hh]; exact Try.sizeOf53) rfl (V.cellsB (by repeat (first | exact List.Mem.head _ | apply List.Mem.tail)))) rfl ?_
    refine TrP.pureG rfl rfl (fun _ => V.eqlA (b := true) arr53 rfl rfl hh hh (by simp)) rfl ?_
    refine TrP.pure rfl (fun _ => V.pick rfl rfl) rfl ?_
    refine TrP.pure rfl (fun _ => V.assign rfl) rfl ?_
    refine TrP.done ?_
    refine Tr.thenN ?_
    refine Tr.ret ?_
    refine Tr.out1 rfl (Res.tmp rfl) fun w hw => ?_
    exact ⟨rfl, hw.sub (List.nil_sublist _)⟩

theorem polyNone_walk (x0 : List (BitVec 8)) (a1 : Option Addr) (len1 cap1 : Nat) (z1 : List Int) (x2 : List (BitVec 8)) (w : World) (l0 : x0.length = 16) (w1 : IsRow .u8 w a1 len1 cap1 z1) (l2 : x2.length = 32) :
    Calls Try.prog 15 #[.agg (x0.map U8).toArray, .slice a1 len1 cap1, .agg (x2.map U8).toArray] w fun r w' => r = .returned (.bool true) ∧ Hp w [] [] w' := by
  obtain ⟨xs, hx⟩ := w1.bytes
  exact polyNone_run x0 a1 len1 cap1 xs x2 w l0 hx l2
namespace polyNone
open Go.ChangeShapes Go.WideShapes Go.ChangeAt Go.RowKit Go.Sym
theorem own : ownKnob Try.prog.godebug = none := by kernel_rfl
theorem laidOut : laidOutB Try.prog = true := by kernel_rfl
set_option maxRecDepth 100000 in
theorem lifted (os : Os) (started : os.Started) (H : Type) (enc : TypeId × Value → H) :
    ReturnsInHanded {} Try.checked os 15 .any (Rows.polyNoneSpec.pre6 enc Try.prog Try.f15 Rows.polyNoneRow.domain false) (Rows.polyNoneSpec.post enc Try.prog Try.f15 false true false false) := by
  refine returnsInHanded_of_change (C := Try.checked) own started (by kernel_rfl) Try.func15
    (ChangeSpec.witness6 (enc := enc) (C := Try.checked) false ⟨#[], #[.agg #[.int .u8 0, .int .u8 0, .int .u8 0, .int .u8 0, .int .u8 0, .int .u8 0, .int .u8 0, .int .u8 0, .int .u8 0, .int .u8 0, .int .u8 0, .int .u8 0, .int .u8 0, .int .u8 0, .int .u8 0, .int .u8 0], .slice none 0 0, .agg #[.int .u8 0, .int .u8 0, .int .u8 0, .int .u8 0, .int .u8 0, .int .u8 0, .int .u8 0, .int .u8 0, .int .u8 0, .int .u8 0, .int .u8 0, .int .u8 0, .int .u8 0, .int .u8 0, .int .u8 0, .int .u8 0, .int .u8 0, .int .u8 0, .int .u8 0, .int .u8 0, .int .u8 0, .int .u8 0, .int .u8 0, .int .u8 0, .int .u8 0, .int .u8 0, .int .u8 0, .int .u8 0, .int .u8 0, .int .u8 0, .int .u8 0, .int .u8 0]], []⟩ 8 (by kernel_rfl) (by kernel_rfl) (by kernel_rfl) (by kernel_rfl)) ?_
  intro W base args ds gs before hval0 hW hcnd _
  have hval : ∀ (j : Nat) t v, Try.f15.params[j]? = some t → args[j]? = some v → Value.okWide Try.prog W .any base t v := hval0
  have hW' := hW
  obtain ⟨p, q, hA0, hV, rfl, hfz, hnd⟩ := hW
  have hA : DataW.TrodAll enc Try.prog W 0 (fun _ => true) true Try.f15.params.toList args.toList ds p := hA0
  rw [Try.params15] at hA hval
  obtain ⟨v0, vs0, d0, ds0, p0, q0, hargs, rfl, rfl, h0, r0⟩ := trodAll_cons hA
  obtain ⟨v1, vs1, d1, ds1, p1, q1, rfl, rfl, rfl, h1, r1⟩ := trodAll_cons r0
  obtain ⟨v2, vs2, d2, ds2, p2, q2, rfl, rfl, rfl, h2, r2⟩ := trodAll_cons r1
  obtain ⟨rfl, rfl, rfl⟩ := trodAll_nil r2
  obtain rfl : args = #[v0, v1, v2] := by cases args; simp_all
  obtain ⟨rfl, rfl⟩ := trodVars_none hV
  have k0 := h0
  have lt0 : ∀ x ∈ p0, x.block < W.heap.size := by obtain ⟨m, hm⟩ := k0; exact DataW.trod_lt m _ _ _ hm
  obtain ⟨x0, l0, rfl⟩ := open_bytesArr Try.underlying53 Try.underlying5 (by kernel_rfl) (by kernel_rfl) (hval 0 53 v0 rfl rfl) h0
  obtain ⟨a1, len1, cap1, rfl⟩ := okWide_slice Try.underlying22 (hval 1 22 v1 rfl rfl)
  have k1 := h1
  have lt1 : ∀ x ∈ p1, x.block < W.heap.size := by obtain ⟨m, hm⟩ := k1; exact DataW.trod_lt m _ _ _ hm
  obtain ⟨z1, w1⟩ : ∃ zs, IsRow .u8 W a1 len1 cap1 zs := by
    obtain ⟨fuel, hf⟩ := h1
    rcases open_ints Try.underlying22 Try.underlying5 (by kernel_rfl) hf with ⟨hcs, _⟩ | ⟨x, l, c, zs, hcs, _, hl, hm, hz, _, hcell, hwz⟩
    · simp [Value.cells] at hcs
      obtain ⟨rfl, rfl, rfl⟩ := hcs
      exact ⟨[], .inl ⟨rfl, rfl, rfl, rfl⟩⟩
    · simp [Value.cells] at hcs
      obtain ⟨rfl, rfl, rfl⟩ := hcs
      exact ⟨zs, .inr ⟨_, rfl, hl, hm, by simpa using hz, hcell, hwz⟩⟩
  have k2 := h2
  have lt2 : ∀ x ∈ p2, x.block < W.heap.size := by obtain ⟨m, hm⟩ := k2; exact DataW.trod_lt m _ _ _ hm
  obtain ⟨x2, l2, rfl⟩ := open_bytesArr Try.underlying52 Try.underlying5 (by kernel_rfl) (by kernel_rfl) (hval 2 52 v2 rfl rfl) h2
  clear hA0 hval0
  refine (polyNone_walk x0 a1 len1 cap1 z1 x2 W l0 w1 l2).mono fun e W' ⟨he, hp⟩ => ?_
  have bel : Below W.heap.size W W' := hp.below
  subst he
  exact ⟨_, rfl, _, _, _, [], _, [], hW', trodAll_mk1 (shut_bool Try.underlying4 _), (trodAll_cons_mk (Below.trod laidOut (by kernel_rfl) (of_decide_eq_true (by kernel_rfl)) k0 bel lt0) (trodAll_cons_mk (Below.trod laidOut (by kernel_rfl) (of_decide_eq_true (by kernel_rfl)) k1 bel lt1) (trodAll_cons_mk (Below.trod laidOut (by kernel_rfl) (of_decide_eq_true (by kernel_rfl)) k2 bel lt2) trodAll_mk0))), rfl, bel.frame _, fun h => by cases h⟩
theorem over : Rows.polyNoneRow.holds Try.pinned (OpenSpec.ofChange Rows.polyNoneSpec) :=
  OpenClaim.holds_of_wide 15 Try.f15 rfl rfl rfl rfl rfl rfl rfl ⟨rfl, rfl, rfl, rfl, rfl⟩ rfl rfl rfl rfl rfl (by kernel_rfl) Try.func15 (by kernel_rfl)
    (of_decide_eq_true (by kernel_rfl)) (by unfold Func.isWrapper; first | (rw [if_pos (by decide +kernel)]; kernel_rfl) | (rw [if_neg (by decide +kernel)]; exact ⟨rfl, rfl⟩))
    (fun os started H enc _ => lifted os started H enc)
end polyNone
/-- The statement. -/
theorem polyNoneProved : Rows.PolyNoneSaid := polyNone.over
end Go.Proofs.Ytnhfmmohdiccgaa
