/-
  hatchwaylaw01.WordsBack returns true, whatever its arguments. (Printed by law1.py over the walk printer of this session.)
-/
import Derived.Test.YtnhfmmohdiccgaaRows
import Derived.Test.YtnhfmmohdiccgaaFrame
import Derived.Test.YtnhfmmohdiccgaaShown1
import Derived.Test.YtnhfmmohdiccgaaPlainLaw1
import Derived.Test.YtnhfmmohdiccgaaAny1
namespace Go.Proofs.Ytnhfmmohdiccgaa
open Go.Sym Plain
set_option linter.unusedVariables false

theorem wordsBack_run (p : Option Addr) (m c : Nat) (xs : List (BitVec 8)) (i : Int) (nn : BitVec 64) (w : World) (hx : Bytes w p m c xs) :
    Calls Try.prog 5 [.slice p m c, .int .i64 i, U64 nn].toArray w fun r w' => r = .returned (.bool true) ∧ Hp w [] [] w' := by
  obtain ⟨k, hkk⟩ : ∃ k, k = Nat.min m 50 := ⟨_, rfl⟩
  have hk1 : k ≤ m := by rw [hkk]; exact Nat.min_le_left _ _
  have hk2 : k ≤ 50 := by rw [hkk]; exact Nat.min_le_right _ _
  have hb := hx.part hk1
  have hle := hx.le
  have hmx := hx.max
  have hbl := hb.length
  obtain ⟨s, hs⟩ : ∃ s : Nat, i % (2 ^ 3 : Nat) = (s : Int) := ⟨(i % (2 ^ 3 : Nat)).toNat, by omega⟩
  obtain ⟨z, hz⟩ : ∃ z, z = 1 + s := ⟨_, rfl⟩
  have hz8 : 1 ≤ z ∧ z ≤ 8 := by omega
  have hez : effI (z : Int) = z := effI_nat z hz8.2
  have hltt : (putW true nn z).length = z := putW_len _ _ _
  have hlf : (putW false nn z).length = z := putW_len _ _ _
  have hgt : getW true (xs.take k ++ putW true nn z) k z = getL (putL nn z).reverse := by have := getW_putW true nn (xs.take k) z; rwa [hbl] at this
  have hgf : getW false (xs.take k ++ putW false nn z) k z = getL (putL nn z).reverse := by have := getW_putW false nn (xs.take k) z; rwa [hbl] at this
  refine Tr.enter Try.func5 rfl Try.ntmps5 rfl (Hp.refl w) ?_
  refine Tr.seq ?_
  refine Tr.region ?_
  refine Tr.val (V.assign rfl) rfl ?_
  refine Tr.lNil ?_
  refine Tr.thenN ?_
  refine Tr.seq ?_
  refine Tr.region ?_
  refine Tr.op (W.call1 (args0) Try.call18 rfl (fun w _ => shown_true w) ?_)
  refine Tr.val (V.assign rfl) rfl ?_
  refine Tr.lNil ?_
  refine Tr.thenN ?_
  refine Tr.seq ?_
  refine Tr.region ?_
  refine Tr.val (V.move rfl) rfl ?_
  refine Tr.val (V.move rfl) rfl ?_
  refine Tr.val (V.len Try.runUnderlying22 rfl) rfl ?_
  refine Tr.val ((by rw [hkk]; exact V.minN (b := 50) rfl rfl : VOp Try.prog _ _ _ _ _ _ _ (.int .i64 (k : Int)))) rfl ?_
  refine Tr.val (V.cut Try.runUnderlying22 Try.sizeOf5 rfl rfl (by omega)) rfl ?_
  refine Tr.val (V.assign rfl) rfl ?_
  refine Tr.lNil ?_
  refine Tr.thenN ?_
  refine Tr.seq ?_
  refine Tr.region ?_
  refine Tr.val (V.move rfl) rfl ?_
  refine Tr.val ((by rw [← hs]; exact V.mask (k := 3) rfl rfl (by decide) : VOp Try.prog _ _ _ _ _ _ _ (.int .i64 (s : Int)))) rfl ?_
  refine Tr.val ((by rw [hz]; exact V.addN (a := 1) rfl rfl (by omega) : VOp Try.prog _ _ _ _ _ _ _ (.int .i64 (z : Int)))) rfl ?_
  refine Tr.val (V.assign rfl) rfl ?_
  refine Tr.lNil ?_
  refine Tr.thenN ?_
  refine Tr.seq ?_
  refine Tr.region ?_
  refine Tr.val (V.move rfl) rfl ?_
  refine Tr.val (V.move rfl) rfl ?_
  refine Tr.val (V.move rfl) rfl ?_
  refine Tr.op (W.call (val := fun x : Nat × Nat × List Value => .slice (some ⟨x.1, 0, none⟩) (k + z) x.2.1) (N := fun x => [⟨x.1, 5, (xs.take k ++ putW true nn z).map U8 ++ x.2.2⟩]) (Px := fun x => ((xs.take k ++ putW true nn z).map U8 ++ x.2.2).length = x.2.1)  (args4 rfl rfl rfl rfl) Try.call19 rfl (fun w1 hw => by have h := put_any p k c (xs.take k) (z : Int) nn true w1 (hb.now hw).rd hbl hb.none (by omega) (.inr (by rw [hez]; omega)); simp only [PutOut, hez] at h; exact h) fun x hcx => ?_)
  have hcap : k ≤ x.2.1 := by rw [← hcx, List.length_append, List.length_map, List.length_append, hbl]; omega
  refine Tr.val (V.assign rfl) rfl ?_
  refine Tr.lNil ?_
  refine Tr.thenN ?_
  refine Tr.seq ?_
  refine Tr.region ?_
  refine Tr.val (V.move rfl) rfl ?_
  refine Tr.val (V.move rfl) rfl ?_
  refine Tr.val (V.move rfl) rfl ?_
  refine Tr.op (W.call (val := fun x : Nat × Nat × List Value => .slice (some ⟨x.1, 0, none⟩) (k + z) x.2.1) (N := fun x => [⟨x.1, 5, (xs.take k ++ putW false nn z).map U8 ++ x.2.2⟩]) (Px := fun x => ((xs.take k ++ putW false nn z).map U8 ++ x.2.2).length = x.2.1)  (args4 rfl rfl rfl rfl) Try.call19 rfl (fun w1 hw => by have h := put_any p k c (xs.take k) (z : Int) nn false w1 (hb.now hw).rd hbl hb.none (by omega) (.inr (by rw [hez]; omega)); simp only [PutOut, hez] at h; exact h) fun y hcy => ?_)
  refine Tr.val (V.assign rfl) rfl ?_
  refine Tr.lNil ?_
  refine Tr.thenN ?_
  refine Tr.seq ?_
  refine Tr.seq ?_
  refine Tr.region ?_
  refine Tr.val (V.move rfl) rfl ?_
  refine Tr.val (V.len Try.runUnderlying22 rfl) rfl ?_
  refine Tr.val (V.move rfl) rfl ?_
  refine Tr.val (V.len Try.runUnderlying22 rfl) rfl ?_
  refine Tr.val (V.move rfl) rfl ?_
  refine Tr.val (V.add rfl rfl (by omega)) rfl ?_
  refine Tr.val (V.neq (b := false) rfl rfl (decide_eq_false (by omega))) rfl ?_
  refine Tr.val (V.move rfl) rfl ?_
  refine Tr.valG rfl (V.move rfl) rfl ?_
  refine Tr.valG rfl (V.len Try.runUnderlying22 rfl) rfl ?_
  refine Tr.valG rfl (V.move rfl) rfl ?_
  refine Tr.valG rfl (V.len Try.runUnderlying22 rfl) rfl ?_
  refine Tr.valG rfl (V.neq (b := false) rfl rfl (decide_eq_false (by omega))) rfl ?_
  refine Tr.val (V.pick rfl rfl) rfl ?_
  refine Tr.lNil ?_
  refine Tr.thenN ?_
  refine Tr.condF rfl ?_
  refine Tr.skip ?_
  refine Tr.thenN ?_
  refine Tr.seq ?_
  refine Tr.seq ?_
  refine Tr.region ?_
  refine Tr.val (V.assign rfl) rfl ?_
  refine Tr.lNil ?_
  refine Tr.thenN ?_
  refine Tr.block ?_
  refine Tr.loop (ι := Nat) (fun u => u ≤ z) (fun u => [(0, .slice p k c), (1, .int .i64 (z : Int)), (2, U64 nn), (7, .bool true), (8, .slice (some ⟨x.1, 0, none⟩) (k + z) x.2.1), (9, .slice (some ⟨y.1, 0, none⟩) (k + z) y.2.1), (10, .int .i64 (u : Int))]) (fun u => [⟨y.1, 5, (xs.take k ++ putW false nn z).map U8 ++ y.2.2⟩, ⟨x.1, 5, (xs.take k ++ putW true nn z).map U8 ++ x.2.2⟩]) (fun u => z - u) 0 (Nat.zero_le _) (lk_cons rfl (lk_cons rfl (lk_cons rfl (lk_cons rfl (lk_cons rfl (lk_cons rfl (lk_cons rfl (lk_nil _)))))))) (List.Sublist.refl _) fun u hI => ?_
  refine Tr.seq ?_
  refine Tr.seq ?_
  refine Tr.region ?_
  refine Tr.val (V.move rfl) rfl ?_
  refine Tr.val (V.move rfl) rfl ?_
  refine Tr.val (V.lss rfl rfl rfl) rfl ?_
  refine Tr.lNil ?_
  refine Tr.thenN ?_
  refine Tr.cond rfl (fun hT1 => ?_) (fun hF1 => ?_)
  · simp only [decide_eq_true_eq] at hT1
    have hlt : u < z := by omega
    obtain ⟨a, ha⟩ : ∃ a, (putW true nn z)[u]? = some a := ⟨_, List.getElem?_eq_getElem (by omega)⟩
    have ha2 : (putW false nn z)[z - 1 - u]? = some a := by
      have h1 : putW true nn z = (putW false nn z).reverse := rfl
      rw [h1, List.getElem?_reverse (by omega), hlf] at ha
      exact ha
    have hgx : ((xs.take k ++ putW true nn z).map U8 ++ x.2.2)[k + u]? = some (U8 a) := by
      rw [List.getElem?_append_left (by rw [List.length_map, List.length_append, hbl, hltt]; omega), List.getElem?_map, List.getElem?_append_right (by omega), hbl, Nat.add_sub_cancel_left, ha]; rfl
    have hgy : ((xs.take k ++ putW false nn z).map U8 ++ y.2.2)[k + (z - 1 - u)]? = some (U8 a) := by
      rw [List.getElem?_append_left (by rw [List.length_map, List.length_append, hbl, hlf]; omega), List.getElem?_map, List.getElem?_append_right (by omega), hbl, Nat.add_sub_cancel_left, ha2]; rfl
    refine Tr.skip ?_
    refine Tr.thenN ?_
    refine Tr.seq ?_
    refine Tr.block ?_
    refine Tr.seq ?_
    refine Tr.regionD [0, 0, 2, 0, 14, 31, 63, 0, 0, 256, 0, 1792, 3840, 0, 16128, 32640, 65408, 131071] [] (.pure 0 (.pure 1 (.pure 2 (.pure 3 (.pure 4 (.pure 5 (.soft 6 (.pure 7 (.pure 8 (.pure 9 (.pure 10 (.pure 11 (.pure 12 (.pure 13 (.pure 14 (.pure 15 (.soft 16 (.pure 17 .done)))))))))))))))))) mixed (by kernel_rfl) ?_
    refine TrP.pure rfl (fun _ => V.move rfl) rfl ?_
    refine TrP.pure rfl (fun _ => V.move rfl) rfl ?_
    refine TrP.pure rfl (fun _ => V.len Try.runUnderlying22 rfl) rfl ?_
    refine TrP.pure rfl (fun _ => V.move rfl) rfl ?_
    refine TrP.pure rfl (fun _ => V.add rfl rfl (by omega)) rfl ?_
    refine TrP.pure rfl (fun _ => V.idxO (j := k + u) (o' := k + u) Try.runUnderlying22 Try.sizeOf5 rfl rfl (by omega) (by omega) (by omega)) rfl ?_
    refine TrP.soft rfl (V.load1 Try.isAgg5 rfl (V.cellB (by repeat (first | exact List.Mem.head _ | apply List.Mem.tail)) hgx)) rfl ?_
    refine TrP.pure rfl (fun _ => V.move rfl) rfl ?_
    refine TrP.pure rfl (fun _ => V.move rfl) rfl ?_
    refine TrP.pure rfl (fun _ => V.len Try.runUnderlying22 rfl) rfl ?_
    refine TrP.pure rfl (fun _ => V.move rfl) rfl ?_
    refine TrP.pure rfl (fun _ => V.add rfl rfl (by omega)) rfl ?_
    refine TrP.pure rfl (fun _ => V.sub rfl rfl (by omega)) rfl ?_
    refine TrP.pure rfl (fun _ => V.move rfl) rfl ?_
    refine TrP.pure rfl (fun _ => V.sub rfl rfl (by omega)) rfl ?_
    refine TrP.pure rfl (fun _ => V.idxO (j := k + (z - 1 - u)) (o' := k + (z - 1 - u)) Try.runUnderlying22 Try.sizeOf5 rfl rfl (by omega) (by omega) (by omega)) rfl ?_
    refine TrP.soft rfl (V.load1 Try.isAgg5 rfl (V.cellB (by repeat (first | exact List.Mem.head _ | apply List.Mem.tail)) hgy)) rfl ?_
    refine TrP.pure rfl (fun _ => V.neq8 (b := false) rfl rfl (by simp)) rfl ?_
    refine TrP.done ?_
    refine Tr.thenN ?_
    refine Tr.condF rfl ?_
    refine Tr.skip ?_
    refine Tr.inN ?_
    refine Tr.thenN ?_
    refine Tr.region ?_
    refine Tr.val (V.move rfl) rfl ?_
    refine Tr.val (V.add rfl rfl (by omega)) rfl ?_
    refine Tr.val (V.assign rfl) rfl ?_
    refine Tr.lNil ?_
    exact Tr.again (u + 1) (by omega) (by omega) (lk_cons rfl (lk_cons rfl (lk_cons rfl (lk_cons rfl (lk_cons rfl (lk_cons rfl (lk_cons rfl (lk_nil _)))))))) (List.Sublist.refl _)
  · simp only [decide_eq_false_iff_not] at hF1
    refine Tr.exit ?_
    refine Tr.thenX ?_
    refine Tr.thenX ?_
    refine Tr.inHit ?_
    refine Tr.thenN ?_
    refine Tr.seq ?_
    refine Tr.seq ?_
    refine Tr.region ?_
    refine Tr.val (V.move rfl) rfl ?_
    refine Tr.val (V.lss rfl rfl rfl) rfl ?_
    refine Tr.lNil ?_
    refine Tr.thenN ?_
    refine Tr.cond rfl (fun hT3 => ?_) (fun hF3 => ?_)
    · simp only [decide_eq_true_eq] at hT3
      refine Tr.region ?_
      refine Tr.val (V.move rfl) rfl ?_
      refine Tr.val (V.move rfl) rfl ?_
      refine Tr.val (V.mulN (a := 8) rfl rfl (by omega)) rfl ?_
      refine Tr.val (V.convN_64 Try.runUnderlying3 Try.runUnderlying32 rfl (by omega) (by omega)) rfl ?_
      refine Tr.val (V.shl64 (X := 1#64) (s := 8 * z) rfl rfl) rfl ?_
      refine Tr.val (V.sub64 (Y := 1#64) rfl rfl) rfl ?_
      refine Tr.val (V.and64 rfl rfl) rfl ?_
      refine Tr.val (V.assign rfl) rfl ?_
      refine Tr.lNil ?_
      refine Tr.thenN ?_
      refine Tr.seq ?_
      refine Tr.region ?_
      refine Tr.val (V.move rfl) rfl ?_
      refine Tr.val (V.move rfl) rfl ?_
      refine Tr.val (V.len Try.runUnderlying22 rfl) rfl ?_
      refine Tr.val (V.move rfl) rfl ?_
      refine Tr.op (W.call1 (args4 rfl rfl rfl rfl) Try.call20 rfl (fun w1 hw => get_ok (some ⟨x.1, 0, none⟩) (k + z) x.2.1 k z true (xs.take k ++ putW true nn z) w1 ((RdP.headL (by repeat (first | exact List.Mem.head _ | apply List.Mem.tail))).now hw) (by rw [List.length_append, hbl, hltt]) (by omega) (by omega) (by omega) (by omega)) ?_)
      refine Tr.val (V.move rfl) rfl ?_
      refine Tr.val (V.extract rfl rfl) rfl ?_
      refine Tr.val (V.extract rfl rfl) rfl ?_
      refine Tr.val (V.assign rfl) rfl ?_
      refine Tr.val (V.assign rfl) rfl ?_
      refine Tr.lNil ?_
      refine Tr.thenN ?_
      refine Tr.seq ?_
      refine Tr.region ?_
      refine Tr.val (V.move rfl) rfl ?_
      refine Tr.val (V.move rfl) rfl ?_
      refine Tr.val (V.len Try.runUnderlying22 rfl) rfl ?_
      refine Tr.val (V.move rfl) rfl ?_
      refine Tr.op (W.call1 (args4 rfl rfl rfl rfl) Try.call20 rfl (fun w1 hw => get_ok (some ⟨y.1, 0, none⟩) (k + z) y.2.1 k z false (xs.take k ++ putW false nn z) w1 ((RdP.headL (by repeat (first | exact List.Mem.head _ | apply List.Mem.tail))).now hw) (by rw [List.length_append, hbl, hlf]) (by omega) (by omega) (by omega) (by omega)) ?_)
      refine Tr.val (V.move rfl) rfl ?_
      refine Tr.val (V.extract rfl rfl) rfl ?_
      refine Tr.val (V.extract rfl rfl) rfl ?_
      refine Tr.val (V.assign rfl) rfl ?_
      refine Tr.val (V.assign rfl) rfl ?_
      refine Tr.lNil ?_
      refine Tr.thenN ?_
      refine Tr.seq ?_
      refine Tr.region ?_
      refine Tr.val (V.move rfl) rfl ?_
      refine Tr.val (V.move rfl) rfl ?_
      refine Tr.val (V.len Try.runUnderlying22 rfl) rfl ?_
      refine Tr.val (V.add rfl rfl (by omega)) rfl ?_
      refine Tr.val (V.move rfl) rfl ?_
      refine Tr.op (W.call1 (args4 rfl rfl rfl rfl) Try.call20 rfl (fun w1 hw => get_no (some ⟨y.1, 0, none⟩) (k + z) y.2.1 _ (z : Int) false w1 (by omega) (by omega) (by omega) (by omega)) ?_)
      refine Tr.val (V.move rfl) rfl ?_
      refine Tr.val (V.extract rfl rfl) rfl ?_
      refine Tr.val (V.extract rfl rfl) rfl ?_
      refine Tr.val (V.assign rfl) rfl ?_
      refine Tr.val (V.assign rfl) rfl ?_
      refine Tr.lNil ?_
      refine Tr.thenN ?_
      refine Tr.seq ?_
      refine Tr.regionD [0, 1, 3, 7, 15, 31, 63, 127, 255, 511, 1023, 2047, 4095, 4095, 16383, 32767, 65535, 131071, 131071, 524287, 1048575, 2097151, 4194303, 4194303, 12582911, 33554431, 67108863, 4194303, 138412031, 536870911, 1073741823, 2147483647] [] (.pure 0 (.pure 1 (.pure 2 (.pure 3 (.pure 4 (.pure 5 (.pure 6 (.pure 7 (.pure 8 (.pure 9 (.pure 10 (.pure 11 (.pure 12 (.pure 13 (.pure 14 (.pure 15 (.pure 16 (.pure 17 (.pure 18 (.pure 19 (.pure 20 (.pure 21 (.pure 22 (.pure 23 (.pure 24 (.pure 25 (.soft 26 (.pure 27 (.soft 28 (.pure 29 (.pure 30 (.pure 31 .done)))))))))))))))))))))))))))))))) mixed (by kernel_rfl) ?_
      refine TrP.pure rfl (fun _ => V.move rfl) rfl ?_
      refine TrP.pure rfl (fun _ => V.move rfl) rfl ?_
      refine TrP.pureG rfl rfl (fun _ => V.move rfl) rfl ?_
      refine TrP.pure rfl (fun _ => V.pick rfl rfl) rfl ?_
      refine TrP.pure rfl (fun _ => V.move rfl) rfl ?_
      refine TrP.pureG rfl rfl (fun _ => V.move rfl) rfl ?_
      refine TrP.pure rfl (fun _ => V.pick rfl rfl) rfl ?_
      refine TrP.pure rfl (fun _ => V.move rfl) rfl ?_
      refine TrP.pureG rfl rfl (fun _ => V.move rfl) rfl ?_
      refine TrP.pureG rfl rfl (fun _ => V.not rfl) rfl ?_
      refine TrP.pure rfl (fun _ => V.pick rfl rfl) rfl ?_
      refine TrP.pure rfl (fun _ => V.move rfl) rfl ?_
      refine TrP.pureG rfl rfl (fun _ => V.move rfl) rfl ?_
      refine TrP.pureG rfl rfl (fun _ => V.move rfl) rfl ?_
      refine TrP.pureG rfl rfl (fun _ => V.eql64 (b := true) rfl rfl (by rw [hgt]; exact (by first | exact decide_eq_true (getL_putL z nn (by omega)) | (obtain rfl : z = 8 := (by omega); exact decide_eq_true (getL_putL8 nn))))) rfl ?_
      refine TrP.pure rfl (fun _ => V.pick rfl rfl) rfl ?_
      refine TrP.pure rfl (fun _ => V.move rfl) rfl ?_
      refine TrP.pureG rfl rfl (fun _ => V.move rfl) rfl ?_
      refine TrP.pureG rfl rfl (fun _ => V.move rfl) rfl ?_
      refine TrP.pureG rfl rfl (fun _ => V.eql64 (b := true) rfl rfl (by rw [hgf]; exact (by first | exact decide_eq_true (getL_putL z nn (by omega)) | (obtain rfl : z = 8 := (by omega); exact decide_eq_true (getL_putL8 nn))))) rfl ?_
      refine TrP.pure rfl (fun _ => V.pick rfl rfl) rfl ?_
      refine TrP.pure rfl (fun _ => V.move rfl) rfl ?_
      refine TrP.pureG rfl rfl (fun _ => V.move rfl) rfl ?_
      refine TrP.pureG rfl rfl (fun _ => V.move rfl) rfl ?_
      refine TrP.pureG rfl rfl (fun _ => V.len Try.runUnderlying22 rfl) rfl ?_
      refine TrP.pureG rfl rfl (fun _ => V.cut Try.runUnderlying22 Try.sizeOf5 rfl rfl hcap) rfl ?_
      refine TrP.softG rfl rfl (V.bytesStr Try.runUnderlying22 Try.runUnderlying9 Try.runUnderlying5 rfl (RdP.pre (by repeat (first | exact List.Mem.head _ | apply List.Mem.tail))) hbl) rfl ?_
      refine TrP.pureG rfl rfl (fun _ => V.move rfl) rfl ?_
      refine TrP.softG rfl rfl (V.bytesStr Try.runUnderlying22 Try.runUnderlying9 Try.runUnderlying5 rfl hb.old hbl) rfl ?_
      refine TrP.pureG rfl rfl (fun _ => V.eqlS (b := true) rfl rfl (bstr_same _)) rfl ?_
      refine TrP.pure rfl (fun _ => V.pick rfl rfl) rfl ?_
      refine TrP.pure rfl (fun _ => V.assign rfl) rfl ?_
      refine TrP.done ?_
      refine Tr.thenN ?_
      refine Tr.ret ?_
      refine Tr.out1 rfl (Res.tmp rfl) fun w hw => ?_
      exact ⟨rfl, hw.sub (List.nil_sublist _)⟩
    · simp only [decide_eq_false_iff_not] at hF3
      refine Tr.skip ?_
      refine Tr.thenN ?_
      refine Tr.seq ?_
      refine Tr.region ?_
      refine Tr.val (V.move rfl) rfl ?_
      refine Tr.val (V.move rfl) rfl ?_
      refine Tr.val (V.len Try.runUnderlying22 rfl) rfl ?_
      refine Tr.val (V.move rfl) rfl ?_
      refine Tr.op (W.call1 (args4 rfl rfl rfl rfl) Try.call20 rfl (fun w1 hw => get_ok (some ⟨x.1, 0, none⟩) (k + z) x.2.1 k z true (xs.take k ++ putW true nn z) w1 ((RdP.headL (by repeat (first | exact List.Mem.head _ | apply List.Mem.tail))).now hw) (by rw [List.length_append, hbl, hltt]) (by omega) (by omega) (by omega) (by omega)) ?_)
      refine Tr.val (V.move rfl) rfl ?_
      refine Tr.val (V.extract rfl rfl) rfl ?_
      refine Tr.val (V.extract rfl rfl) rfl ?_
      refine Tr.val (V.assign rfl) rfl ?_
      refine Tr.val (V.assign rfl) rfl ?_
      refine Tr.lNil ?_
      refine Tr.thenN ?_
      refine Tr.seq ?_
      refine Tr.region ?_
      refine Tr.val (V.move rfl) rfl ?_
      refine Tr.val (V.move rfl) rfl ?_
      refine Tr.val (V.len Try.runUnderlying22 rfl) rfl ?_
      refine Tr.val (V.move rfl) rfl ?_
      refine Tr.op (W.call1 (args4 rfl rfl rfl rfl) Try.call20 rfl (fun w1 hw => get_ok (some ⟨y.1, 0, none⟩) (k + z) y.2.1 k z false (xs.take k ++ putW false nn z) w1 ((RdP.headL (by repeat (first | exact List.Mem.head _ | apply List.Mem.tail))).now hw) (by rw [List.length_append, hbl, hlf]) (by omega) (by omega) (by omega) (by omega)) ?_)
      refine Tr.val (V.move rfl) rfl ?_
      refine Tr.val (V.extract rfl rfl) rfl ?_
      refine Tr.val (V.extract rfl rfl) rfl ?_
      refine Tr.val (V.assign rfl) rfl ?_
      refine Tr.val (V.assign rfl) rfl ?_
      refine Tr.lNil ?_
      refine Tr.thenN ?_
      refine Tr.seq ?_
      refine Tr.region ?_
      refine Tr.val (V.move rfl) rfl ?_
      refine Tr.val (V.move rfl) rfl ?_
      refine Tr.val (V.len Try.runUnderlying22 rfl) rfl ?_
      refine Tr.val (V.add rfl rfl (by omega)) rfl ?_
      refine Tr.val (V.move rfl) rfl ?_
      refine Tr.op (W.call1 (args4 rfl rfl rfl rfl) Try.call20 rfl (fun w1 hw => get_no (some ⟨y.1, 0, none⟩) (k + z) y.2.1 _ (z : Int) false w1 (by omega) (by omega) (by omega) (by omega)) ?_)
      refine Tr.val (V.move rfl) rfl ?_
      refine Tr.val (V.extract rfl rfl) rfl ?_
      refine Tr.val (V.extract rfl rfl) rfl ?_
      refine Tr.val (V.assign rfl) rfl ?_
      refine Tr.val (V.assign rfl) rfl ?_
      refine Tr.lNil ?_
      refine Tr.thenN ?_
      refine Tr.seq ?_
      refine Tr.regionD [0, 1, 3, 7, 15, 31, 63, 127, 255, 511, 1023, 2047, 4095, 4095, 16383, 32767, 65535, 131071, 131071, 524287, 1048575, 2097151, 4194303, 4194303, 12582911, 33554431, 67108863, 4194303, 138412031, 536870911, 1073741823, 2147483647] [] (.pure 0 (.pure 1 (.pure 2 (.pure 3 (.pure 4 (.pure 5 (.pure 6 (.pure 7 (.pure 8 (.pure 9 (.pure 10 (.pure 11 (.pure 12 (.pure 13 (.pure 14 (.pure 15 (.pure 16 (.pure 17 (.pure 18 (.pure 19 (.pure 20 (.pure 21 (.pure 22 (.pure 23 (.pure 24 (.pure 25 (.soft 26 (.pure 27 (.soft 28 (.pure 29 (.pure 30 (.pure 31 .done)))))))))))))))))))))))))))))))) mixed (by kernel_rfl) ?_
      refine TrP.pure rfl (fun _ => V.move rfl) rfl ?_
      refine TrP.pure rfl (fun _ => V.move rfl) rfl ?_
      refine TrP.pureG rfl rfl (fun _ => V.move rfl) rfl ?_
      refine TrP.pure rfl (fun _ => V.pick rfl rfl) rfl ?_
      refine TrP.pure rfl (fun _ => V.move rfl) rfl ?_
      refine TrP.pureG rfl rfl (fun _ => V.move rfl) rfl ?_
      refine TrP.pure rfl (fun _ => V.pick rfl rfl) rfl ?_
      refine TrP.pure rfl (fun _ => V.move rfl) rfl ?_
      refine TrP.pureG rfl rfl (fun _ => V.move rfl) rfl ?_
      refine TrP.pureG rfl rfl (fun _ => V.not rfl) rfl ?_
      refine TrP.pure rfl (fun _ => V.pick rfl rfl) rfl ?_
      refine TrP.pure rfl (fun _ => V.move rfl) rfl ?_
      refine TrP.pureG rfl rfl (fun _ => V.move rfl) rfl ?_
      refine TrP.pureG rfl rfl (fun _ => V.move rfl) rfl ?_
      refine TrP.pureG rfl rfl (fun _ => V.eql64 (b := true) rfl rfl (by rw [hgt]; exact (by first | exact decide_eq_true (getL_putL z nn (by omega)) | (obtain rfl : z = 8 := (by omega); exact decide_eq_true (getL_putL8 nn))))) rfl ?_
      refine TrP.pure rfl (fun _ => V.pick rfl rfl) rfl ?_
      refine TrP.pure rfl (fun _ => V.move rfl) rfl ?_
      refine TrP.pureG rfl rfl (fun _ => V.move rfl) rfl ?_
      refine TrP.pureG rfl rfl (fun _ => V.move rfl) rfl ?_
      refine TrP.pureG rfl rfl (fun _ => V.eql64 (b := true) rfl rfl (by rw [hgf]; exact (by first | exact decide_eq_true (getL_putL z nn (by omega)) | (obtain rfl : z = 8 := (by omega); exact decide_eq_true (getL_putL8 nn))))) rfl ?_
      refine TrP.pure rfl (fun _ => V.pick rfl rfl) rfl ?_
      refine TrP.pure rfl (fun _ => V.move rfl) rfl ?_
      refine TrP.pureG rfl rfl (fun _ => V.move rfl) rfl ?_
      refine TrP.pureG rfl rfl (fun _ => V.move rfl) rfl ?_
      refine TrP.pureG rfl rfl (fun _ => V.len Try.runUnderlying22 rfl) rfl ?_
      refine TrP.pureG rfl rfl (fun _ => V.cut Try.runUnderlying22 Try.sizeOf5 rfl rfl hcap) rfl ?_
      refine TrP.softG rfl rfl (V.bytesStr Try.runUnderlying22 Try.runUnderlying9 Try.runUnderlying5 rfl (RdP.pre (by repeat (first | exact List.Mem.head _ | apply List.Mem.tail))) hbl) rfl ?_
      refine TrP.pureG rfl rfl (fun _ => V.move rfl) rfl ?_
      refine TrP.softG rfl rfl (V.bytesStr Try.runUnderlying22 Try.runUnderlying9 Try.runUnderlying5 rfl hb.old hbl) rfl ?_
      refine TrP.pureG rfl rfl (fun _ => V.eqlS (b := true) rfl rfl (bstr_same _)) rfl ?_
      refine TrP.pure rfl (fun _ => V.pick rfl rfl) rfl ?_
      refine TrP.pure rfl (fun _ => V.assign rfl) rfl ?_
      refine TrP.done ?_
      refine Tr.thenN ?_
      refine Tr.ret ?_
      refine Tr.out1 rfl (Res.tmp rfl) fun w hw => ?_
      exact ⟨rfl, hw.sub (List.nil_sublist _)⟩

theorem wordsBack_walk (a0 : Option Addr) (len0 cap0 : Nat) (z0 : List Int) (a1 a2 : Int) (w : World) (w0 : IsRow .u8 w a0 len0 cap0 z0) (w1 : (Lit.int .i64 a1).wf = true) (w2 : (Lit.int .u64 a2).wf = true) :
    Calls Try.prog 5 #[.slice a0 len0 cap0, .int .i64 a1, .int .u64 a2] w fun r w' => r = .returned (.bool true) ∧ Hp w [] [] w' := by
  obtain ⟨X, rfl⟩ := wf64 w2
  obtain ⟨xs, hx⟩ := w0.bytes
  exact wordsBack_run a0 len0 cap0 xs a1 X w hx
namespace wordsBack
open Go.ChangeShapes Go.WideShapes Go.ChangeAt Go.RowKit Go.Sym
theorem own : ownKnob Try.prog.godebug = none := by kernel_rfl
theorem laidOut : laidOutB Try.prog = true := by kernel_rfl
set_option maxRecDepth 100000 in
theorem lifted (os : Os) (started : os.Started) (H : Type) (enc : TypeId × Value → H) :
    ReturnsInHanded {} Try.checked os 5 .any (Rows.wordsBackSpec.pre6 enc Try.prog Try.f5 Rows.wordsBackRow.domain false) (Rows.wordsBackSpec.post enc Try.prog Try.f5 false true false false) := by
  refine returnsInHanded_of_change (C := Try.checked) own started (by kernel_rfl) Try.func5
    (ChangeSpec.witness6 (enc := enc) (C := Try.checked) false ⟨#[], #[.slice none 0 0, .int .i64 0, .int .u64 0], []⟩ 8 (by kernel_rfl) (by kernel_rfl) (by kernel_rfl) (by kernel_rfl)) ?_
  intro W base args ds gs before hval0 hW hcnd _
  have hval : ∀ (j : Nat) t v, Try.f5.params[j]? = some t → args[j]? = some v → Value.okWide Try.prog W .any base t v := hval0
  have hW' := hW
  obtain ⟨p, q, hA0, hV, rfl, hfz, hnd⟩ := hW
  have hA : DataW.TrodAll enc Try.prog W 0 (fun _ => true) true Try.f5.params.toList args.toList ds p := hA0
  rw [Try.params5] at hA hval
  obtain ⟨v0, vs0, d0, ds0, p0, q0, hargs, rfl, rfl, h0, r0⟩ := trodAll_cons hA
  obtain ⟨v1, vs1, d1, ds1, p1, q1, rfl, rfl, rfl, h1, r1⟩ := trodAll_cons r0
  obtain ⟨v2, vs2, d2, ds2, p2, q2, rfl, rfl, rfl, h2, r2⟩ := trodAll_cons r1
  obtain ⟨rfl, rfl, rfl⟩ := trodAll_nil r2
  obtain rfl : args = #[v0, v1, v2] := by cases args; simp_all
  obtain ⟨rfl, rfl⟩ := trodVars_none hV
  obtain ⟨a0, len0, cap0, rfl⟩ := okWide_slice Try.underlying22 (hval 0 22 v0 rfl rfl)
  have k0 := h0
  have lt0 : ∀ x ∈ p0, x.block < W.heap.size := by obtain ⟨m, hm⟩ := k0; exact DataW.trod_lt m _ _ _ hm
  obtain ⟨z0, w0⟩ : ∃ zs, IsRow .u8 W a0 len0 cap0 zs := by
    obtain ⟨fuel, hf⟩ := h0
    rcases open_ints Try.underlying22 Try.underlying5 (by kernel_rfl) hf with ⟨hcs, _⟩ | ⟨x, l, c, zs, hcs, _, hl, hm, hz, _, hcell, hwz⟩
    · simp [Value.cells] at hcs
      obtain ⟨rfl, rfl, rfl⟩ := hcs
      exact ⟨[], .inl ⟨rfl, rfl, rfl, rfl⟩⟩
    · simp [Value.cells] at hcs
      obtain ⟨rfl, rfl, rfl⟩ := hcs
      exact ⟨zs, .inr ⟨_, rfl, hl, hm, by simpa using hz, hcell, hwz⟩⟩
  obtain ⟨a1, rfl, rfl, rfl, w1⟩ := open_int Try.underlying3 (hval 1 3 v1 rfl rfl) h1
  obtain ⟨a2, rfl, rfl, rfl, w2⟩ := open_int Try.underlying23 (hval 2 23 v2 rfl rfl) h2
  clear hA0 hval0
  refine (wordsBack_walk a0 len0 cap0 z0 a1 a2 W w0 w1 w2).mono fun e W' ⟨he, hp⟩ => ?_
  have bel : Below W.heap.size W W' := hp.below
  subst he
  exact ⟨_, rfl, _, _, _, [], _, [], hW', trodAll_mk1 (shut_bool Try.underlying4 _), (trodAll_cons_mk (Below.trod laidOut (by kernel_rfl) (of_decide_eq_true (by kernel_rfl)) k0 bel lt0) (trodAll_cons_mk (shut_int Try.underlying3 w1) (trodAll_cons_mk (shut_int Try.underlying23 w2) trodAll_mk0))), rfl, bel.frame _, fun h => by cases h⟩
theorem over : Rows.wordsBackRow.holds Try.pinned (OpenSpec.ofChange Rows.wordsBackSpec) :=
  OpenClaim.holds_of_wide 5 Try.f5 rfl rfl rfl rfl rfl rfl rfl ⟨rfl, rfl, rfl, rfl, rfl⟩ rfl rfl rfl rfl rfl (by kernel_rfl) Try.func5 (by kernel_rfl)
    (of_decide_eq_true (by kernel_rfl)) (by unfold Func.isWrapper; first | (rw [if_pos (by decide +kernel)]; kernel_rfl) | (rw [if_neg (by decide +kernel)]; exact ⟨rfl, rfl⟩))
    (fun os started H enc _ => lifted os started H enc)
end wordsBack
/-- The statement. -/
theorem wordsBackProved : Rows.WordsBackSaid := wordsBack.over
end Go.Proofs.Ytnhfmmohdiccgaa
