/-
  hatchwaylaw03.PolyAdds returns true, whatever its arguments. (Printed by a program of this session over its walk printer.)
-/
import Derived.Test.YtnhfmmohdiccgaaRows
import Derived.Test.YtnhfmmohdiccgaaLaw3
namespace Go.Proofs.Ytnhfmmohdiccgaa
open Go.Sym Plain
set_option linter.unusedVariables false

theorem polyAdds_run (p : Option Addr) (m c : Nat) (key xs : List (BitVec 8)) (w : World) (hk : key.length = 32) (hx : Bytes w p m c xs) :
    Calls Try.prog 14 [.agg (key.map U8).toArray, .slice p m c].toArray w fun r w' => r = .returned (.bool true) ∧ Hp w [] [] w' := by
  obtain ⟨k, hkk⟩ : ∃ k, k = Nat.min m 200 := ⟨_, rfl⟩
  have hk1 : k ≤ m := by rw [hkk]; exact Nat.min_le_left _ _
  have hk2 : k ≤ 200 := by rw [hkk]; exact Nat.min_le_right _ _
  have hb := hx.part hk1
  have hle := hx.le
  have hmx := hx.max
  obtain ⟨half, hhalf⟩ : ∃ f : Nat → List (BitVec 8), f = halfAt key := ⟨_, rfl⟩
  obtain ⟨non, hnon⟩ : ∃ f : Nat → List (BitVec 8), f = noneAt key := ⟨_, rfl⟩
  have hhl : ∀ j, j ≤ 16 → (half j).length = 16 := fun j hj => by rw [hhalf]; exact halfAt_len key j hk hj
  have hnl : ∀ j, j ≤ 16 → (non j).length = 32 := fun j hj => by rw [hnon]; exact noneAt_len key j hk hj
  have hn0 : key = non 0 := by rw [hnon]; exact (noneAt_zero key).symm
  have hh0 : half 0 = List.replicate 16 0#8 := by rw [hhalf]; exact halfAt_zero key
  obtain ⟨t, ht⟩ : ∃ t, t = polyAcc (polyR key) (xs.take k) (partsOf (xs.take k)) := ⟨_, rfl⟩
  obtain ⟨s, hs⟩ : ∃ s, s = polyS key := ⟨_, rfl⟩
  have hX : polyTag key (xs.take k) = tagB (t + s) := by rw [ht, hs]; rfl
  have hZ : polyTag (non 16) (xs.take k) = tagB t := by rw [hnon, polyTag, (noneAt_all key hk).1, (noneAt_all key hk).2, ht]; rfl
  have hW := words16 (half 16) (hhl 16 (Nat.le_refl _))
  rw [show leN (half 16) = s by rw [hhalf, halfAt_all key hk, hs]; rfl] at hW
  obtain ⟨P, hP⟩ : ∃ P, P = getW false (half 16) 0 8 := ⟨_, rfl⟩
  obtain ⟨q, hq⟩ : ∃ q, q = getW false (half 16) 8 8 := ⟨_, rfl⟩
  rw [← hP, ← hq] at hW
  have hlow := adds_low t s P q hW
  have hhigh := adds_high t s P q hW
  refine Tr.enter Try.func14 rfl Try.ntmps14 rfl (Hp.refl w) ?_
  refine Tr.seq ?_
  refine Tr.region ?_
  refine Tr.op (W.box (cs := key.map U8) rfl rfl rfl fun g2 => ?_)
  refine Tr.val (V.assign rfl) rfl ?_
  refine Tr.lNil ?_
  refine Tr.thenN ?_
  refine Tr.seq ?_
  refine Tr.region ?_
  refine Tr.op (W.call1 (args0) Try.call35 rfl (fun w1 _ => shown3_true w1) ?_)
  refine Tr.val (V.assign rfl) rfl ?_
  refine Tr.lNil ?_
  refine Tr.thenN ?_
  refine Tr.seq ?_
  refine Tr.region ?_
  refine Tr.val (V.move rfl) rfl ?_
  refine Tr.val (V.move rfl) rfl ?_
  refine Tr.val (V.len Try.runUnderlying22 rfl) rfl ?_
  refine Tr.val ((by rw [hkk]; exact V.minN (b := 200) rfl rfl : VOp Try.prog _ _ _ _ _ _ _ (.int .i64 (k : Int)))) rfl ?_
  refine Tr.val (V.cut Try.runUnderlying22 Try.sizeOf5 rfl rfl (by omega)) rfl ?_
  refine Tr.val (V.assign rfl) rfl ?_
  refine Tr.lNil ?_
  refine Tr.thenN ?_
  refine Tr.seq ?_
  refine Tr.region ?_
  refine Tr.val (V.loadN (cs := key.map U8) Try.isAgg52 (by rw [List.length_map, hk]; exact Try.sizeOf52) rfl (V.cellsB (by repeat (first | exact List.Mem.head _ | apply List.Mem.tail)))) rfl ?_
  refine Tr.val (V.move rfl) rfl ?_
  refine Tr.op (W.call1 (args2 rfl rfl) Try.call36 rfl (fun w1 hw => by have h := sum_any p k c key (xs.take k) w1 hk (hb.now hw); rw [hX] at h; exact h) ?_)
  refine Tr.op (W.call1 (args1 rfl) Try.call38 rfl (fun w1 hw => by have h := number_any (tagB (t + s)) w1 (tagB_len _); rw [tag_low, tag_high] at h; exact h) ?_)
  refine Tr.val (V.move rfl) rfl ?_
  refine Tr.val (V.extract rfl rfl) rfl ?_
  refine Tr.val (V.extract rfl rfl) rfl ?_
  refine Tr.val (V.assign rfl) rfl ?_
  refine Tr.val (V.assign rfl) rfl ?_
  refine Tr.lNil ?_
  refine Tr.thenN ?_
  refine Tr.seq ?_
  refine Tr.region ?_
  refine Tr.val ((by rw [← hn0]; exact V.loadN (cs := key.map U8) Try.isAgg52 (by rw [List.length_map, hk]; exact Try.sizeOf52) rfl (V.cellsB (by repeat (first | exact List.Mem.head _ | apply List.Mem.tail))) : VOp Try.prog _ _ _ _ _ _ _ (.agg ((non 0).map U8).toArray))) rfl ?_
  refine Tr.op (W.alloc (cs := (List.replicate 32 0#8).map U8) Try.zeroValue52 rfl rfl fun g8 => ?_)
  refine Tr.op (W.storeAll (vs := (non 0).map U8) (cs := (List.replicate 32 0#8).map U8) Try.sizeOf52 rfl rfl (by rw [List.length_map, hnl 0 (by omega)]) rfl (one8 _) (by repeat (first | exact Upd.head | apply Upd.tail)) ?_)
  refine Tr.lNil ?_
  refine Tr.thenN ?_
  refine Tr.seq ?_
  refine Tr.region ?_
  refine Tr.op (W.alloc (cs := (List.replicate 16 0#8).map U8) Try.zeroValue53 rfl rfl fun g9 => ?_)
  refine Tr.lNil ?_
  refine Tr.thenN ?_
  refine Tr.seq ?_
  refine Tr.seq ?_
  refine Tr.region ?_
  refine Tr.val (V.assign rfl) rfl ?_
  refine Tr.lNil ?_
  refine Tr.thenN ?_
  refine Tr.block ?_
  refine Tr.loop (ι := Nat) (fun j => j ≤ 16) (fun j => [(1, .slice p k c), (2, .pointer (some ⟨g2, 0, none⟩)), (5, .bool true), (6, U64 (BitVec.ofNat 64 (t + s))), (7, U64 (BitVec.ofNat 64 ((t + s) / 18446744073709551616))), (8, .pointer (some ⟨g8, 0, none⟩)), (9, .pointer (some ⟨g9, 0, none⟩)), (10, .int .i64 (j : Int))]) (fun j => [⟨g9, 53, (half j).map U8⟩, ⟨g8, 52, (non j).map U8⟩, ⟨g2, 52, key.map U8⟩]) (fun j => 16 - j) 0 (Nat.zero_le _) (lk_cons rfl (lk_cons rfl (lk_cons rfl (lk_cons rfl (lk_cons rfl (lk_cons rfl (lk_cons rfl (lk_cons rfl (lk_nil _))))))))) (by rw [hh0]; exact List.Sublist.refl _) fun j hI => ?_
  refine Tr.seq ?_
  refine Tr.seq ?_
  refine Tr.region ?_
  refine Tr.val (V.move rfl) rfl ?_
  refine Tr.val (V.lss rfl rfl rfl) rfl ?_
  refine Tr.lNil ?_
  refine Tr.thenN ?_
  refine Tr.cond rfl (fun hT0 => ?_) (fun hF0 => ?_)
  · simp only [decide_eq_true_eq] at hT0
    have hlt : j < 16 := by omega
    obtain ⟨a, ha⟩ : ∃ a, key[16 + j]? = some a := ⟨_, List.getElem?_eq_getElem (by omega)⟩
    have hset1 : (half j).set j a = half (j + 1) := by rw [hhalf]; exact halfAt_set key j a hk hlt ha
    have hset2 : (non j).set (16 + j) 0#8 = non (j + 1) := by rw [hnon]; exact noneAt_set key j hk hlt
    refine Tr.skip ?_
    refine Tr.thenN ?_
    refine Tr.seq ?_
    refine Tr.block ?_
    refine Tr.seq ?_
    refine Tr.region ?_
    refine Tr.val (V.move rfl) rfl ?_
    refine Tr.val (V.move rfl) rfl ?_
    refine Tr.val (V.addN (a := 16) rfl rfl (by omega)) rfl ?_
    refine Tr.val (V.idxA (j := (16 + j)) (o' := (16 + j)) Try.runUnderlying52 Try.sizeOf5 rfl rfl (by omega) (by omega) (by omega)) rfl ?_
    refine Tr.val (V.load1 Try.isAgg5 rfl (V.cellB (by repeat (first | exact List.Mem.head _ | apply List.Mem.tail)) (by rw [List.getElem?_map, ha]; rfl))) rfl ?_
    refine Tr.val (V.idxA (j := j) (o' := j) Try.runUnderlying53 Try.sizeOf5 rfl rfl (by omega) (by omega) (by omega)) rfl ?_
    refine Tr.op (W.store1E (cs := (half j).map U8) (v := U8 a) (cs' := (half (j + 1)).map U8) Try.sizeOf5 rfl rfl rfl rfl (by rw [← hset1, List.map_set]) (by repeat (first | exact Upd.head | apply Upd.tail)) (by rw [List.length_map, hhl j (by omega)]; omega) ?_)
    refine Tr.lNil ?_
    refine Tr.thenN ?_
    refine Tr.region ?_
    refine Tr.val (V.move rfl) rfl ?_
    refine Tr.val (V.addN (a := 16) rfl rfl (by omega)) rfl ?_
    refine Tr.val (V.idxA (j := (16 + j)) (o' := (16 + j)) Try.runUnderlying52 Try.sizeOf5 rfl rfl (by omega) (by omega) (by omega)) rfl ?_
    refine Tr.op (W.store1E (cs := (non j).map U8) (v := U8 0#8) (cs' := (non (j + 1)).map U8) Try.sizeOf5 rfl rfl rfl rfl (by rw [← hset2, List.map_set]) (by repeat (first | exact Upd.head | apply Upd.tail)) (by rw [List.length_map, hnl j (by omega)]; omega) ?_)
    refine Tr.lNil ?_
    refine Tr.inN ?_
    refine Tr.thenN ?_
    refine Tr.region ?_
    refine Tr.val (V.move rfl) rfl ?_
    refine Tr.val (V.add rfl rfl (by omega)) rfl ?_
    refine Tr.val (V.assign rfl) rfl ?_
    refine Tr.lNil ?_
    exact Tr.again (j + 1) (by omega) (by omega) (lk_cons rfl (lk_cons rfl (lk_cons rfl (lk_cons rfl (lk_cons rfl (lk_cons rfl (lk_cons rfl (lk_cons rfl (lk_nil _))))))))) (List.Sublist.refl _)
  · simp only [decide_eq_false_iff_not] at hF0
    obtain rfl : j = 16 := by omega
    refine Tr.exit ?_
    refine Tr.thenX ?_
    refine Tr.thenX ?_
    refine Tr.inHit ?_
    refine Tr.thenN ?_
    refine Tr.seq ?_
    refine Tr.region ?_
    refine Tr.val (V.loadN (cs := (non 16).map U8) Try.isAgg52 (by rw [List.length_map, hnl 16 (by omega)]; exact Try.sizeOf52) rfl (V.cellsB (by repeat (first | exact List.Mem.head _ | apply List.Mem.tail)))) rfl ?_
    refine Tr.val (V.move rfl) rfl ?_
    refine Tr.op (W.call1 (args2 rfl rfl) Try.call36 rfl (fun w1 hw => by have h := sum_any p k c (non 16) (xs.take k) w1 (hnl 16 (by omega)) (hb.now hw); rw [hZ] at h; exact h) ?_)
    refine Tr.op (W.call1 (args1 rfl) Try.call38 rfl (fun w1 hw => by have h := number_any (tagB t) w1 (tagB_len _); rw [tag_low, tag_high] at h; exact h) ?_)
    refine Tr.val (V.move rfl) rfl ?_
    refine Tr.val (V.extract rfl rfl) rfl ?_
    refine Tr.val (V.extract rfl rfl) rfl ?_
    refine Tr.val (V.assign rfl) rfl ?_
    refine Tr.val (V.assign rfl) rfl ?_
    refine Tr.lNil ?_
    refine Tr.thenN ?_
    refine Tr.seq ?_
    refine Tr.region ?_
    refine Tr.val (V.loadN (cs := (half 16).map U8) Try.isAgg53 (by rw [List.length_map, hhl 16 (by omega)]; exact Try.sizeOf53) rfl (V.cellsB (by repeat (first | exact List.Mem.head _ | apply List.Mem.tail)))) rfl ?_
    refine Tr.op (W.call1 (args1 rfl) Try.call38 rfl (fun w1 hw => by have h := number_any (half 16) w1 (hhl 16 (by omega)); rw [← hP, ← hq] at h; exact h) ?_)
    refine Tr.val (V.move rfl) rfl ?_
    refine Tr.val (V.extract rfl rfl) rfl ?_
    refine Tr.val (V.extract rfl rfl) rfl ?_
    refine Tr.val (V.assign rfl) rfl ?_
    refine Tr.val (V.assign rfl) rfl ?_
    refine Tr.lNil ?_
    refine Tr.thenN ?_
    refine Tr.seq ?_
    refine Tr.region ?_
    refine Tr.val (V.move rfl) rfl ?_
    refine Tr.val (V.move rfl) rfl ?_
    refine Tr.val (V.add64 rfl rfl) rfl ?_
    refine Tr.val (V.assign rfl) rfl ?_
    refine Tr.lNil ?_
    refine Tr.thenN ?_
    refine Tr.seq ?_
    refine Tr.region ?_
    refine Tr.val (V.move rfl) rfl ?_
    refine Tr.val (V.move rfl) rfl ?_
    refine Tr.val (V.add64 rfl rfl) rfl ?_
    refine Tr.val (V.assign rfl) rfl ?_
    refine Tr.lNil ?_
    refine Tr.thenN ?_
    refine Tr.seq ?_
    refine Tr.seq ?_
    refine Tr.region ?_
    refine Tr.val (V.move rfl) rfl ?_
    refine Tr.val (V.move rfl) rfl ?_
    refine Tr.val (V.lss64 rfl rfl rfl) rfl ?_
    refine Tr.lNil ?_
    refine Tr.thenN ?_
    refine Tr.cond rfl (fun hT1 => ?_) (fun hF1 => ?_)
    · simp only [decide_eq_true_eq] at hT1
      rw [if_pos hT1] at hhigh
      refine Tr.region ?_
      refine Tr.val (V.move rfl) rfl ?_
      refine Tr.val (V.add64 (Y := 1#64) rfl rfl) rfl ?_
      refine Tr.val (V.assign rfl) rfl ?_
      refine Tr.lNil ?_
      refine Tr.thenN ?_
      refine Tr.seq ?_
      refine Tr.region ?_
      refine Tr.val (V.move rfl) rfl ?_
      refine Tr.val (V.move rfl) rfl ?_
      refine Tr.valG rfl (V.move rfl) rfl ?_
      refine Tr.valG rfl (V.move rfl) rfl ?_
      refine Tr.valG rfl (V.eql64 (b := true) rfl rfl (decide_eq_true hlow)) rfl ?_
      refine Tr.val (V.pick rfl rfl) rfl ?_
      refine Tr.val (V.move rfl) rfl ?_
      refine Tr.valG rfl (V.move rfl) rfl ?_
      refine Tr.valG rfl (V.move rfl) rfl ?_
      refine Tr.valG rfl (V.eql64 (b := true) rfl rfl (decide_eq_true hhigh)) rfl ?_
      refine Tr.val (V.pick rfl rfl) rfl ?_
      refine Tr.val (V.assign rfl) rfl ?_
      refine Tr.lNil ?_
      refine Tr.thenN ?_
      refine Tr.ret ?_
      refine Tr.out1 rfl (Res.tmp rfl) fun w hw => ?_
      exact ⟨rfl, hw.sub (List.nil_sublist _)⟩
    · simp only [decide_eq_false_iff_not] at hF1
      rw [if_neg hF1] at hhigh
      refine Tr.skip ?_
      refine Tr.thenN ?_
      refine Tr.seq ?_
      refine Tr.region ?_
      refine Tr.val (V.move rfl) rfl ?_
      refine Tr.val (V.move rfl) rfl ?_
      refine Tr.valG rfl (V.move rfl) rfl ?_
      refine Tr.valG rfl (V.move rfl) rfl ?_
      refine Tr.valG rfl (V.eql64 (b := true) rfl rfl (decide_eq_true hlow)) rfl ?_
      refine Tr.val (V.pick rfl rfl) rfl ?_
      refine Tr.val (V.move rfl) rfl ?_
      refine Tr.valG rfl (V.move rfl) rfl ?_
      refine Tr.valG rfl (V.move rfl) rfl ?_
      refine Tr.valG rfl (V.eql64 (b := true) rfl rfl (decide_eq_true hhigh)) rfl ?_
      refine Tr.val (V.pick rfl rfl) rfl ?_
      refine Tr.val (V.assign rfl) rfl ?_
      refine Tr.lNil ?_
      refine Tr.thenN ?_
      refine Tr.ret ?_
      refine Tr.out1 rfl (Res.tmp rfl) fun w hw => ?_
      exact ⟨rfl, hw.sub (List.nil_sublist _)⟩

theorem polyAdds_walk (x0 : List (BitVec 8)) (a1 : Option Addr) (len1 cap1 : Nat) (z1 : List Int) (w : World) (l0 : x0.length = 32) (w1 : IsRow .u8 w a1 len1 cap1 z1) :
    Calls Try.prog 14 #[.agg (x0.map U8).toArray, .slice a1 len1 cap1] w fun r w' => r = .returned (.bool true) ∧ Hp w [] [] w' := by
  obtain ⟨xs, hx⟩ := w1.bytes
  exact polyAdds_run a1 len1 cap1 x0 xs w l0 hx
namespace polyAdds
open Go.ChangeShapes Go.WideShapes Go.ChangeAt Go.RowKit Go.Sym
theorem own : ownKnob Try.prog.godebug = none := by kernel_rfl
theorem laidOut : laidOutB Try.prog = true := by kernel_rfl
set_option maxRecDepth 100000 in
theorem lifted (os : Os) (started : os.Started) (H : Type) (enc : TypeId × Value → H) :
    ReturnsInHanded {} Try.checked os 14 .any (Rows.polyAddsSpec.pre6 enc Try.prog Try.f14 Rows.polyAddsRow.domain false) (Rows.polyAddsSpec.post enc Try.prog Try.f14 false true false false) := by
  refine returnsInHanded_of_change (C := Try.checked) own started (by kernel_rfl) Try.func14
    (ChangeSpec.witness6 (enc := enc) (C := Try.checked) false ⟨#[], #[.agg #[.int .u8 0, .int .u8 0, .int .u8 0, .int .u8 0, .int .u8 0, .int .u8 0, .int .u8 0, .int .u8 0, .int .u8 0, .int .u8 0, .int .u8 0, .int .u8 0, .int .u8 0, .int .u8 0, .int .u8 0, .int .u8 0, .int .u8 0, .int .u8 0, .int .u8 0, .int .u8 0, .int .u8 0, .int .u8 0, .int .u8 0, .int .u8 0, .int .u8 0, .int .u8 0, .int .u8 0, .int .u8 0, .int .u8 0, .int .u8 0, .int .u8 0, .int .u8 0], .slice none 0 0], []⟩ 8 (by kernel_rfl) (by kernel_rfl) (by kernel_rfl) (by kernel_rfl)) ?_
  intro W base args ds gs before hval0 hW hcnd _
  have hval : ∀ (j : Nat) t v, Try.f14.params[j]? = some t → args[j]? = some v → Value.okWide Try.prog W .any base t v := hval0
  have hW' := hW
  obtain ⟨p, q, hA0, hV, rfl, hfz, hnd⟩ := hW
  have hA : DataW.TrodAll enc Try.prog W 0 (fun _ => true) true Try.f14.params.toList args.toList ds p := hA0
  rw [Try.params14] at hA hval
  obtain ⟨v0, vs0, d0, ds0, p0, q0, hargs, rfl, rfl, h0, r0⟩ := trodAll_cons hA
  obtain ⟨v1, vs1, d1, ds1, p1, q1, rfl, rfl, rfl, h1, r1⟩ := trodAll_cons r0
  obtain ⟨rfl, rfl, rfl⟩ := trodAll_nil r1
  obtain rfl : args = #[v0, v1] := by cases args; simp_all
  obtain ⟨rfl, rfl⟩ := trodVars_none hV
  have k0 := h0
  have lt0 : ∀ x ∈ p0, x.block < W.heap.size := by obtain ⟨m, hm⟩ := k0; exact DataW.trod_lt m _ _ _ hm
  obtain ⟨x0, l0, rfl⟩ := open_bytesArr Try.underlying52 Try.underlying5 (by kernel_rfl) (by kernel_rfl) (hval 0 52 v0 rfl rfl) h0
  obtain ⟨a1, len1, cap1, rfl⟩ := okWide_slice Try.underlying22 (hval 1 22 v1 rfl rfl)
  have k1 := h1
  have lt1 : ∀ x ∈ p1, x.block < W.heap.size := by obtain ⟨m, hm⟩ := k1; exact DataW.trod_lt m _ _ _ hm
  obtain ⟨z1, w1⟩ : ∃ zs, IsRow .u8 W a1 len1 cap1 zs := by
    obtain ⟨fuel, hf⟩ := h1
    rcases open_ints Try.underlying22 Try.underlying5 (by kernel_rfl) hf with ⟨hcs, _⟩ | ⟨x, l, c, zs, hcs, _, hl, hm, hz, _, hcell, hwz⟩
    · simp [Value.cells] at hcs
      obtain ⟨rfl, rfl, rfl⟩ := hcs
      exact ⟨[], .inl ⟨rfl, rfl, rfl, rfl⟩⟩
    · simp [Value.cells] at hcs
      obtain ⟨rfl, rfl, rfl⟩ := hcs
      exact ⟨zs, .inr ⟨_, rfl, hl, hm, by simpa using hz, hcell, hwz⟩⟩
  clear hA0 hval0
  refine (polyAdds_walk x0 a1 len1 cap1 z1 W l0 w1).mono fun e W' ⟨he, hp⟩ => ?_
  have bel : Below W.heap.size W W' := hp.below
  subst he
  exact ⟨_, rfl, _, _, _, [], _, [], hW', trodAll_mk1 (shut_bool Try.underlying4 _), (trodAll_cons_mk (Below.trod laidOut (by kernel_rfl) (of_decide_eq_true (by kernel_rfl)) k0 bel lt0) (trodAll_cons_mk (Below.trod laidOut (by kernel_rfl) (of_decide_eq_true (by kernel_rfl)) k1 bel lt1) trodAll_mk0)), rfl, bel.frame _, fun h => by cases h⟩
theorem over : Rows.polyAddsRow.holds Try.pinned (OpenSpec.ofChange Rows.polyAddsSpec) :=
  OpenClaim.holds_of_wide 14 Try.f14 rfl rfl rfl rfl rfl rfl rfl ⟨rfl, rfl, rfl, rfl, rfl⟩ rfl rfl rfl rfl rfl (by kernel_rfl) Try.func14 (by kernel_rfl)
    (of_decide_eq_true (by kernel_rfl)) (by unfold Func.isWrapper; first | (rw [if_pos (by decide +kernel)]; kernel_rfl) | (rw [if_neg (by decide +kernel)]; exact ⟨rfl, rfl⟩))
    (fun os started H enc _ => lifted os started H enc)
end polyAdds
/-- The statement. -/
theorem polyAddsProved : Rows.PolyAddsSaid := polyAdds.over
end Go.Proofs.Ytnhfmmohdiccgaa
