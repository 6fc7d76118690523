/-
  Contracts of hatchwayref02: cut, turn, half, quarter, words. (Printed by a program of this session over its walk printer.)
-/
import Derived.Test.YtnhfmmohdiccgaaDoorPlainRef2
import Derived.Test.YtnhfmmohdiccgaaDoorSymL
import Derived.Test.YtnhfmmohdiccgaaDoorFacts
import Derived.Test.YtnhfmmohdiccgaaDoorRef1
import Derived.Test.YtnhfmmohdiccgaaDoorAny1
import Derived.Test.YtnhfmmohdiccgaaDoorFrame
namespace Go.Proofs.YtnhfmmohdiccgaaDoor
open Go.Sym Plain
set_option linter.unusedVariables false
set_option maxRecDepth 20000

theorem cut_any (X : BitVec 64) (w : World) : Calls Tryd.prog 47 [U64 X].toArray w fun r w' => r = .returned (U64 (X % 4294967296#64)) ∧ Hp w [] [] w' := by
  refine Tr.enter Tryd.func47 rfl Tryd.ntmps47 rfl (Hp.refl w) ?_
  refine Tr.seq ?_
  refine Tr.region ?_
  refine Tr.val (V.assign (v := U64 0#64) rfl) rfl ?_
  refine Tr.lNil ?_
  refine Tr.thenN ?_
  refine Tr.seq ?_
  refine Tr.region ?_
  refine Tr.val (V.move rfl) rfl ?_
  refine Tr.val (V.rem64 (Y := 4294967296#64) rfl rfl (by decide)) rfl ?_
  refine Tr.val (V.assign rfl) rfl ?_
  refine Tr.lNil ?_
  refine Tr.thenN ?_
  refine Tr.ret ?_
  refine Tr.out1 rfl (Res.tmp rfl) fun w hw => ?_
  exact ⟨rfl, hw⟩

theorem turn_any (X : BitVec 64) (i : Int) (w : World) : Calls Tryd.prog 48 [U64 X, .int .i64 i].toArray w fun r w' => r = .returned (U64 ((rotI (X.setWidth 32) i).setWidth 64)) ∧ Hp w [] [] w' := by
  refine Tr.enter Tryd.func48 rfl Tryd.ntmps48 rfl (Hp.refl w) ?_
  refine Tr.seq ?_
  refine Tr.region ?_
  refine Tr.val (V.assign (v := U64 0#64) rfl) rfl ?_
  refine Tr.lNil ?_
  refine Tr.thenN ?_
  refine Tr.seq ?_
  refine Tr.region ?_
  refine Tr.val (V.move rfl) rfl ?_
  refine Tr.val (V.conv64_32 Tryd.runUnderlying53 Tryd.runUnderlying24 rfl) rfl ?_
  refine Tr.val (V.move rfl) rfl ?_
  refine Tr.op (W.call1 (args2 rfl rfl) Tryd.call59 rfl (fun w1 _ => rrot_any _ _ w1) ?_)
  refine Tr.val (V.conv32_64 Tryd.runUnderlying24 Tryd.runUnderlying53 rfl) rfl ?_
  refine Tr.val (V.assign rfl) rfl ?_
  refine Tr.lNil ?_
  refine Tr.thenN ?_
  refine Tr.ret ?_
  refine Tr.out1 rfl (Res.tmp rfl) fun w hw => ?_
  exact ⟨rfl, hw⟩

theorem half2_any (g c : Nat) (s : W32) (junk : List Value) (a b d : Nat) (i : Int) (w : World) (hs : s.length = 16) (ha : a < 16) (hb : b < 16) (hd : d < 16) (h : Hp w [g] [⟨g, 53, s.map V64 ++ junk⟩] w) :
    Calls Tryd.prog 41 [.slice (some ⟨g, 0, none⟩) 16 c, NV a, NV b, NV d, .int .i64 i].toArray w fun r w' => r = .returned (.tuple #[]) ∧ Hp w [g] [⟨g, 53, (hstep s a b d i).map V64 ++ junk⟩] w' := by
  obtain ⟨s1, hs1⟩ : ∃ s1, s1 = s.set a (s.getD a 0#32 + s.getD b 0#32) := ⟨_, rfl⟩
  obtain ⟨s2, hs2⟩ : ∃ s2, s2 = s1.set d (rotI (s1.getD d 0#32 ^^^ s1.getD a 0#32) i) := ⟨_, rfl⟩
  have hl1 : s1.length = 16 := by rw [hs1, List.length_set, hs]
  have h2 : hstep s a b d i = s2 := by rw [hs2, hs1]; rfl
  rw [h2]
  refine Tr.enter Tryd.func41 rfl Tryd.ntmps41 rfl h ?_
  refine Tr.seq ?_
  refine Tr.regionD [0, 0, 0, 0, 12, 28, 0, 0, 192, 448, 1020, 2044, 4095, 8191] [13] (.pure 0 (.pure 1 (.pure 2 (.pure 3 (.pure 4 (.soft 5 (.pure 6 (.pure 7 (.pure 8 (.soft 9 (.pure 10 (.soft 11 (.pure 12 (.hard 13 .done)))))))))))))) mixed (by kernel_rfl) ?_
  refine TrP.pure rfl (fun _ => V.move rfl) rfl ?_
  refine TrP.pure rfl (fun _ => V.move rfl) rfl ?_
  refine TrP.pure rfl (fun _ => V.move rfl) rfl ?_
  refine TrP.pure rfl (fun _ => V.move rfl) rfl ?_
  refine TrP.pure rfl (fun _ => V.idxO (j := a) (o' := a) Tryd.runUnderlying55 Tryd.sizeOf53 rfl rfl rfl (by omega) (by omega)) rfl ?_
  refine TrP.soft rfl (V.load1 Tryd.isAgg53 rfl (V.cellB (by repeat (first | exact List.Mem.head _ | apply List.Mem.tail)) (by rw [List.getElem?_append_left (by rw [List.length_map]; omega)]; exact getV s a (by omega)))) rfl ?_
  refine TrP.pure rfl (fun _ => V.move rfl) rfl ?_
  refine TrP.pure rfl (fun _ => V.move rfl) rfl ?_
  refine TrP.pure rfl (fun _ => V.idxO (j := b) (o' := b) Tryd.runUnderlying55 Tryd.sizeOf53 rfl rfl rfl (by omega) (by omega)) rfl ?_
  refine TrP.soft rfl (V.load1 Tryd.isAgg53 rfl (V.cellB (by repeat (first | exact List.Mem.head _ | apply List.Mem.tail)) (by rw [List.getElem?_append_left (by rw [List.length_map]; omega)]; exact getV s b (by omega)))) rfl ?_
  refine TrP.pure rfl (fun _ => V.add64 rfl rfl) rfl ?_
  refine TrP.call rfl (args1 rfl) Tryd.call47 rfl (fun w1 _ => by have h := cut_any ((s.getD a 0#32).setWidth 64 + (s.getD b 0#32).setWidth 64) w1; rw [cut_sum] at h; exact h) ?_
  refine TrP.pure rfl (fun _ => V.idxO (j := a) (o' := a) Tryd.runUnderlying55 Tryd.sizeOf53 rfl rfl rfl (by omega) (by omega)) rfl ?_
  refine TrP.hard rfl (W.store1E (cs := s.map V64 ++ junk) (v := V64 (s.getD a 0#32 + s.getD b 0#32)) (cs' := s1.map V64 ++ junk) Tryd.sizeOf53 rfl rfl rfl rfl (by rw [hs1, List.set_append_left _ _ (by rw [List.length_map]; omega), List.map_set]) (by repeat (first | exact Upd.head | apply Upd.tail)) (by rw [List.length_append, List.length_map]; omega) ?_)
  refine Tr.pTail rfl ?_
  refine TrP.done ?_
  refine Tr.thenN ?_
  refine Tr.regionD [0, 0, 0, 0, 12, 28, 0, 0, 192, 448, 1020, 0, 4092, 8191, 16383] [14] (.pure 0 (.pure 1 (.pure 2 (.pure 3 (.pure 4 (.soft 5 (.pure 6 (.pure 7 (.pure 8 (.soft 9 (.pure 10 (.pure 11 (.soft 12 (.pure 13 (.hard 14 .done))))))))))))))) mixed (by kernel_rfl) ?_
  refine TrP.pure rfl (fun _ => V.move rfl) rfl ?_
  refine TrP.pure rfl (fun _ => V.move rfl) rfl ?_
  refine TrP.pure rfl (fun _ => V.move rfl) rfl ?_
  refine TrP.pure rfl (fun _ => V.move rfl) rfl ?_
  refine TrP.pure rfl (fun _ => V.idxO (j := d) (o' := d) Tryd.runUnderlying55 Tryd.sizeOf53 rfl rfl rfl (by omega) (by omega)) rfl ?_
  refine TrP.soft rfl (V.load1 Tryd.isAgg53 rfl (V.cellB (by repeat (first | exact List.Mem.head _ | apply List.Mem.tail)) (by rw [List.getElem?_append_left (by rw [List.length_map]; omega)]; exact getV s1 d (by omega)))) rfl ?_
  refine TrP.pure rfl (fun _ => V.move rfl) rfl ?_
  refine TrP.pure rfl (fun _ => V.move rfl) rfl ?_
  refine TrP.pure rfl (fun _ => V.idxO (j := a) (o' := a) Tryd.runUnderlying55 Tryd.sizeOf53 rfl rfl rfl (by omega) (by omega)) rfl ?_
  refine TrP.soft rfl (V.load1 Tryd.isAgg53 rfl (V.cellB (by repeat (first | exact List.Mem.head _ | apply List.Mem.tail)) (by rw [List.getElem?_append_left (by rw [List.length_map]; omega)]; exact getV s1 a (by omega)))) rfl ?_
  refine TrP.pure rfl (fun _ => V.xor64 rfl rfl) rfl ?_
  refine TrP.pure rfl (fun _ => V.move rfl) rfl ?_
  refine TrP.call rfl (args2 rfl rfl) Tryd.call48 rfl (fun w1 _ => by have h := turn_any ((s1.getD d 0#32).setWidth 64 ^^^ (s1.getD a 0#32).setWidth 64) i w1; rw [cut_xor] at h; exact h) ?_
  refine TrP.pure rfl (fun _ => V.idxO (j := d) (o' := d) Tryd.runUnderlying55 Tryd.sizeOf53 rfl rfl rfl (by omega) (by omega)) rfl ?_
  refine TrP.hard rfl (W.store1E (cs := s1.map V64 ++ junk) (v := V64 (rotI (s1.getD d 0#32 ^^^ s1.getD a 0#32) i)) (cs' := s2.map V64 ++ junk) Tryd.sizeOf53 rfl rfl rfl rfl (by rw [hs2, List.set_append_left _ _ (by rw [List.length_map]; omega), List.map_set]) (by repeat (first | exact Upd.head | apply Upd.tail)) (by rw [List.length_append, List.length_map]; omega) ?_)
  refine Tr.pTail rfl ?_
  refine TrP.done ?_
  refine Tr.out0 rfl fun w hw => ?_
  exact ⟨rfl, hw⟩

theorem quarter2_any (g c : Nat) (s : W32) (junk : List Value) (a b c2 d : Nat) (w : World) (hs : s.length = 16) (ha : a < 16) (hb : b < 16) (hc : c2 < 16) (hd : d < 16) (h : Hp w [g] [⟨g, 53, s.map V64 ++ junk⟩] w) :
    Calls Tryd.prog 28 [.slice (some ⟨g, 0, none⟩) 16 c, NV a, NV b, NV c2, NV d].toArray w fun r w' => r = .returned (.tuple #[]) ∧ Hp w [g] [⟨g, 53, (quarterL s a b c2 d).map V64 ++ junk⟩] w' := by
  refine Tr.enter Tryd.func28 rfl Tryd.ntmps28 rfl h ?_
  refine Tr.seq ?_
  refine Tr.region ?_
  refine Tr.val (V.move rfl) rfl ?_
  refine Tr.val (V.move rfl) rfl ?_
  refine Tr.val (V.move rfl) rfl ?_
  refine Tr.val (V.move rfl) rfl ?_
  refine Tr.op (W.callM (x := ⟨g, 53, s.map V64 ++ junk⟩) (y := ⟨g, 53, (hstep s a b d 16).map V64 ++ junk⟩)  (args5 rfl rfl rfl rfl rfl) Tryd.call41 rfl (by repeat (first | exact Upd.head | apply Upd.tail)) rfl (fun w1 _ hb1 => half2_any g c s junk a b d 16 w1 (by first | exact hs | (simp only [hstep_len]; exact hs)) (by omega) (by omega) (by omega) (Hp.own1 hb1)) ?_)
  refine Tr.lNil ?_
  refine Tr.thenN ?_
  refine Tr.seq ?_
  refine Tr.region ?_
  refine Tr.val (V.move rfl) rfl ?_
  refine Tr.val (V.move rfl) rfl ?_
  refine Tr.val (V.move rfl) rfl ?_
  refine Tr.val (V.move rfl) rfl ?_
  refine Tr.op (W.callM (x := ⟨g, 53, (hstep s a b d 16).map V64 ++ junk⟩) (y := ⟨g, 53, (hstep (hstep s a b d 16) c2 d b 12).map V64 ++ junk⟩)  (args5 rfl rfl rfl rfl rfl) Tryd.call41 rfl (by repeat (first | exact Upd.head | apply Upd.tail)) rfl (fun w1 _ hb1 => half2_any g c (hstep s a b d 16) junk c2 d b 12 w1 (by first | exact hs | (simp only [hstep_len]; exact hs)) (by omega) (by omega) (by omega) (Hp.own1 hb1)) ?_)
  refine Tr.lNil ?_
  refine Tr.thenN ?_
  refine Tr.seq ?_
  refine Tr.region ?_
  refine Tr.val (V.move rfl) rfl ?_
  refine Tr.val (V.move rfl) rfl ?_
  refine Tr.val (V.move rfl) rfl ?_
  refine Tr.val (V.move rfl) rfl ?_
  refine Tr.op (W.callM (x := ⟨g, 53, (hstep (hstep s a b d 16) c2 d b 12).map V64 ++ junk⟩) (y := ⟨g, 53, (hstep (hstep (hstep s a b d 16) c2 d b 12) a b d 8).map V64 ++ junk⟩)  (args5 rfl rfl rfl rfl rfl) Tryd.call41 rfl (by repeat (first | exact Upd.head | apply Upd.tail)) rfl (fun w1 _ hb1 => half2_any g c (hstep (hstep s a b d 16) c2 d b 12) junk a b d 8 w1 (by first | exact hs | (simp only [hstep_len]; exact hs)) (by omega) (by omega) (by omega) (Hp.own1 hb1)) ?_)
  refine Tr.lNil ?_
  refine Tr.thenN ?_
  refine Tr.region ?_
  refine Tr.val (V.move rfl) rfl ?_
  refine Tr.val (V.move rfl) rfl ?_
  refine Tr.val (V.move rfl) rfl ?_
  refine Tr.val (V.move rfl) rfl ?_
  refine Tr.op (W.callM (x := ⟨g, 53, (hstep (hstep (hstep s a b d 16) c2 d b 12) a b d 8).map V64 ++ junk⟩) (y := ⟨g, 53, (hstep (hstep (hstep (hstep s a b d 16) c2 d b 12) a b d 8) c2 d b 7).map V64 ++ junk⟩)  (args5 rfl rfl rfl rfl rfl) Tryd.call41 rfl (by repeat (first | exact Upd.head | apply Upd.tail)) rfl (fun w1 _ hb1 => half2_any g c (hstep (hstep (hstep s a b d 16) c2 d b 12) a b d 8) junk c2 d b 7 w1 (by first | exact hs | (simp only [hstep_len]; exact hs)) (by omega) (by omega) (by omega) (Hp.own1 hb1)) ?_)
  refine Tr.lNil ?_
  refine Tr.out0 rfl fun w hw => ?_
  exact ⟨rfl, hw⟩

theorem words2_any (p : Option Addr) (m c : Nat) (b : List (BitVec 8)) (w : World) (hx : Bytes w p m c b) (hm : m ≤ 100000) :
    Calls Tryd.prog 27 [.slice p m c].toArray w fun r w' => ∃ x : Nat × Nat × List Value, r = .returned (.slice (some ⟨x.1, 0, none⟩) (m / 4) x.2.1) ∧ Hp w [] [⟨x.1, 53, (wordsL b).map V64 ++ x.2.2⟩] w' ∧ ((wordsL b).map V64 ++ x.2.2).length = x.2.1 := by
  have hbl := hx.length
  have hwl := wordsL_len b
  rw [hbl] at hwl
  refine Tr.enter Tryd.func27 rfl Tryd.ntmps27 rfl (Hp.refl w) ?_
  refine Tr.seq ?_
  refine Tr.region ?_
  refine Tr.val (V.assign rfl) rfl ?_
  refine Tr.lNil ?_
  refine Tr.thenN ?_
  refine Tr.seq ?_
  refine Tr.region ?_
  refine Tr.op (W.build elem55 W.parts0 rfl (by simp) (by omega) rfl fun g7 => ?_)
  refine Tr.val (V.assign rfl) rfl ?_
  refine Tr.lNil ?_
  refine Tr.thenN ?_
  refine Tr.seq ?_
  refine Tr.seq ?_
  refine Tr.region ?_
  refine Tr.val (V.assign rfl) rfl ?_
  refine Tr.lNil ?_
  refine Tr.thenN ?_
  refine Tr.block ?_
  refine Tr.loop (ι := Nat × Nat × Nat × List Value) (fun x => 4 * x.1 ≤ m ∧ (((wordsL b).take x.1).map V64 ++ x.2.2.2).length = x.2.2.1) (fun x => [(0, .slice p m c), (3, .slice (some ⟨x.2.1, 0, none⟩) x.1 x.2.2.1), (4, NV (4 * x.1))]) (fun x => [⟨x.2.1, 53, ((wordsL b).take x.1).map V64 ++ x.2.2.2⟩]) (fun x => m - 4 * x.1) (0, g7, 0, []) ⟨Nat.zero_le _, rfl⟩ (lk_cons rfl (lk_cons rfl (lk_cons rfl (lk_nil _)))) (List.Sublist.refl _) fun x hI => ?_
  obtain ⟨i, g, c2, junk⟩ := x
  obtain ⟨hi, hok⟩ := hI
  simp only at hi hok ⊢
  refine Tr.seq ?_
  refine Tr.seq ?_
  refine Tr.region ?_
  refine Tr.val (V.move rfl) rfl ?_
  refine Tr.val (V.addN (b := 4) rfl rfl (by omega)) rfl ?_
  refine Tr.val (V.move rfl) rfl ?_
  refine Tr.val (V.len Tryd.runUnderlying27 rfl) rfl ?_
  refine Tr.val (V.leq rfl rfl rfl) rfl ?_
  refine Tr.lNil ?_
  refine Tr.thenN ?_
  refine Tr.cond rfl (fun hT0 => ?_) (fun hF0 => ?_)
  · simp only [decide_eq_true_eq] at hT0
    have hlt : 4 * i + 4 ≤ m := by omega
    refine Tr.skip ?_
    refine Tr.thenN ?_
    refine Tr.seq ?_
    refine Tr.block ?_
    refine Tr.seq ?_
    refine Tr.region ?_
    refine Tr.val (V.move rfl) rfl ?_
    refine Tr.val (V.move rfl) rfl ?_
    refine Tr.op (W.call1 (args4 rfl rfl rfl rfl) Tryd.call40 rfl (fun w1 hw => by have h := rget_ok p m c (4 * i) 4 false b w1 (hx.now hw).rd hbl (by omega) (by omega) (by omega) (by omega); rw [← word64 b i (by omega)] at h; exact h) ?_)
    refine Tr.val (V.move rfl) rfl ?_
    refine Tr.val (V.extract rfl rfl) rfl ?_
    refine Tr.val (V.extract rfl rfl) rfl ?_
    refine Tr.val (V.assign rfl) rfl ?_
    refine Tr.val (V.assign rfl) rfl ?_
    refine Tr.lNil ?_
    refine Tr.thenN ?_
    refine Tr.region ?_
    refine Tr.val (V.move rfl) rfl ?_
    refine Tr.val (V.move rfl) rfl ?_
    refine Tr.op (W.build (vs := [V64 (wordAt b i)]) elem55 (W.parts1 rfl) rfl (by simp [Value.cells]) (by omega) rfl fun g23 => ?_)
    refine Tr.op (W.append (m := i) (xs := ((wordsL b).take i).map V64) (vs := [V64 (wordAt b i)]) (junk := junk) (L' := fun y => [⟨g23, 53, [V64 (wordAt b i)]⟩, y]) elem55 rfl rfl (RdP.blk (cs := [V64 (wordAt b i)]) (List.Mem.head _) 0 1) rfl (by simp [Value.oneCell']) (fun y => .tail .head) (by rw [List.length_map, List.length_take]; omega) hok (by omega) (by omega) rfl fun g' c' junk' hc' => ?_)
    rw [show ((wordsL b).take i).map V64 ++ [V64 (wordAt b i)] = ((wordsL b).take (i + 1)).map V64 by rw [wordsL_take b i (by omega), List.map_append]; rfl] at hc' ⊢
    refine Tr.val (V.assign rfl) rfl ?_
    refine Tr.lNil ?_
    refine Tr.inN ?_
    refine Tr.thenN ?_
    refine Tr.region ?_
    refine Tr.val (V.move rfl) rfl ?_
    refine Tr.val (V.addN (b := 4) rfl rfl (by omega)) rfl ?_
    refine Tr.val (V.assign rfl) rfl ?_
    refine Tr.lNil ?_
    exact Tr.again (i + 1, g', c', junk') ⟨by simp only; omega, hc'⟩ (by simp only; omega) (lk_cons rfl (lk_cons rfl (lk_cons rfl (lk_nil _)))) (List.sublist_cons_self _ _)
  · simp only [decide_eq_false_iff_not] at hF0
    have hi4 : i = m / 4 := by omega
    have hall : (wordsL b).take i = wordsL b := List.take_of_length_le (by omega)
    rw [hall] at hok ⊢
    rw [hi4]
    refine Tr.exit ?_
    refine Tr.thenX ?_
    refine Tr.thenX ?_
    refine Tr.inHit ?_
    refine Tr.thenN ?_
    refine Tr.seq ?_
    refine Tr.region ?_
    refine Tr.val (V.move rfl) rfl ?_
    refine Tr.val (V.assign rfl) rfl ?_
    refine Tr.lNil ?_
    refine Tr.thenN ?_
    refine Tr.ret ?_
    refine Tr.out1 rfl (Res.tmp rfl) fun w hw => ?_
    exact ⟨⟨g, c2, junk⟩, rfl, hw, hok⟩

end Go.Proofs.YtnhfmmohdiccgaaDoor
