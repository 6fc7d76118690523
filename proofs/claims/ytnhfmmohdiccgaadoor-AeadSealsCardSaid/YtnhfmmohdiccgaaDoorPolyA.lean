/-
  Contracts of package poly. (Printed by poly1.py over the walk printer of this session.)
-/
import Derived.Test.YtnhfmmohdiccgaaDoorPlainPoly
import Derived.Test.YtnhfmmohdiccgaaDoorFacts
import Derived.Test.YtnhfmmohdiccgaaDoorWordsB
namespace Go.Proofs.YtnhfmmohdiccgaaDoor
open Go.Sym Plain
theorem add64_call (args : Array Value) (w : World) : (callFunc 60 args).run Tryd.prog w = ((add64Entry args).run Tryd.prog w).andThen fun v w' => .ok (.value v) w' :=
  run_callFunc_extern Tryd.func60 (by decide +kernel) rfl rfl rfl args w

theorem plus_any (a b : List (BitVec 64)) (w : World) (ha : a.length = 3) (hb : b.length = 3) :
    Calls Tryd.prog 51 [.agg (a.map U64).toArray, .agg (b.map U64).toArray].toArray w fun r w' => r = .returned (.agg ((addSt a b 3).1.map U64).toArray) ∧ Hp w [] [] w' := by
  refine Tr.enter Tryd.func51 rfl Tryd.ntmps51 rfl (Hp.refl w) ?_
  refine Tr.seq ?_
  refine Tr.region ?_
  refine Tr.op (W.box (cs := a.map U64) rfl rfl rfl fun g2 => ?_)
  refine Tr.op (W.box (cs := b.map U64) rfl rfl rfl fun g3 => ?_)
  refine Tr.op (W.alloc (cs := [0#64, 0#64, 0#64].map U64) Tryd.zeroValue82 rfl rfl fun g4 => ?_)
  refine Tr.lNil ?_
  refine Tr.thenN ?_
  refine Tr.seq ?_
  refine Tr.region ?_
  refine Tr.val (V.assign (v := U64 0#64) rfl) rfl ?_
  refine Tr.lNil ?_
  refine Tr.thenN ?_
  refine Tr.seq ?_
  refine Tr.seq ?_
  refine Tr.region ?_
  refine Tr.val (V.move rfl) rfl ?_
  refine Tr.lNil ?_
  refine Tr.thenN ?_
  refine Tr.block ?_
  refine Tr.loop (ι := Nat) (fun k => k ≤ 3) (fun k => [(2, .pointer (some ⟨g2, 0, none⟩)), (3, .pointer (some ⟨g3, 0, none⟩)), (4, .pointer (some ⟨g4, 0, none⟩)), (5, U64 (addSt a b k).2), (7, .int .i64 (k : Int))]) (fun k => [⟨g4, 82, (addSt a b k).1.map U64⟩, ⟨g3, 82, b.map U64⟩, ⟨g2, 82, a.map U64⟩]) (fun k => 3 - k) 0 (Nat.zero_le _) (lk_cons rfl (lk_cons rfl (lk_cons rfl (lk_cons rfl (lk_cons rfl (lk_nil _)))))) (List.Sublist.refl _) fun k hI => ?_
  refine Tr.seq ?_
  refine Tr.region ?_
  refine Tr.val (V.lss rfl rfl rfl) rfl ?_
  refine Tr.lNil ?_
  refine Tr.thenN ?_
  refine Tr.seq ?_
  refine Tr.cond rfl (fun hT0 => ?_) (fun hF0 => ?_)
  · simp only [decide_eq_true_eq] at hT0
    have hlt : k < 3 := by omega
    have hak : (a.map U64)[k]? = some (U64 (a.getD k 0#64)) := by rw [List.getElem?_map, List.getD_eq_getElem?_getD, List.getElem?_eq_getElem (by omega)]; rfl
    have hbk : (b.map U64)[k]? = some (U64 (b.getD k 0#64)) := by rw [List.getElem?_map, List.getD_eq_getElem?_getD, List.getElem?_eq_getElem (by omega)]; rfl
    have hset : (addSt a b (k + 1)).1.map U64 = ((addSt a b k).1.map U64).set k (U64 (a.getD k 0#64 + b.getD k 0#64 + (addSt a b k).2)) := by rw [addSt, List.map_set]
    refine Tr.skip ?_
    refine Tr.thenN ?_
    refine Tr.seq ?_
    refine Tr.block ?_
    refine Tr.seq ?_
    refine Tr.region ?_
    refine Tr.val (V.move rfl) rfl ?_
    refine Tr.val (V.assign rfl) rfl ?_
    refine Tr.lNil ?_
    refine Tr.thenN ?_
    refine Tr.regionD [0, 0, 2, 6, 0, 16, 48, 0, 254, 510, 1022, 1022, 2047, 6143, 16383] [13] (.pure 0 (.pure 1 (.pure 2 (.soft 3 (.pure 4 (.pure 5 (.soft 6 (.pure 7 (.pure 8 (.pure 9 (.pure 10 (.pure 11 (.pure 12 (.hard 13 (.pure 14 .done))))))))))))))) mixed (by kernel_rfl) ?_
    refine TrP.pure rfl (fun _ => V.move rfl) rfl ?_
    refine TrP.pure rfl (fun _ => V.move rfl) rfl ?_
    refine TrP.pure rfl (fun _ => V.idxA (j := k) (o' := k) Tryd.runUnderlying82 Tryd.sizeOf53 rfl rfl (by omega) (by omega) (by omega)) rfl ?_
    refine TrP.soft rfl (V.load1 Tryd.isAgg53 rfl (V.cellB (by repeat (first | exact List.Mem.head _ | apply List.Mem.tail)) hak)) rfl ?_
    refine TrP.pure rfl (fun _ => V.move rfl) rfl ?_
    refine TrP.pure rfl (fun _ => V.idxA (j := k) (o' := k) Tryd.runUnderlying82 Tryd.sizeOf53 rfl rfl (by omega) (by omega) (by omega)) rfl ?_
    refine TrP.soft rfl (V.load1 Tryd.isAgg53 rfl (V.cellB (by repeat (first | exact List.Mem.head _ | apply List.Mem.tail)) hbk)) rfl ?_
    refine TrP.pure rfl (fun _ => V.move rfl) rfl ?_
    refine TrP.pure rfl (fun _ => V.callE (vs := [U64 (a.getD k 0#64), U64 (b.getD k 0#64), U64 (addSt a b k).2]) (args3 rfl rfl rfl) (add64_run add64_call _ _ _ (addSt_cy a b k))) rfl ?_
    refine TrP.pure rfl (fun _ => V.move rfl) rfl ?_
    refine TrP.pure rfl (fun _ => V.extract rfl rfl) rfl ?_
    refine TrP.pure rfl (fun _ => V.extract rfl rfl) rfl ?_
    refine TrP.pure rfl (fun _ => V.idxA (j := k) (o' := k) Tryd.runUnderlying82 Tryd.sizeOf53 rfl rfl (by omega) (by omega) (by omega)) rfl ?_
    refine TrP.hard rfl (W.store1 Tryd.sizeOf53 rfl rfl rfl rfl (by repeat (first | exact Upd.head | apply Upd.tail)) (by rw [List.length_map, addSt_len]; omega) ?_)
    refine Tr.pTail rfl ?_
    refine TrP.pure rfl (fun _ => V.assign rfl) rfl ?_
    refine TrP.done ?_
    refine Tr.inN ?_
    refine Tr.thenN ?_
    refine Tr.region ?_
    refine Tr.val (V.add rfl rfl (by omega)) rfl ?_
    refine Tr.val (V.move rfl) rfl ?_
    refine Tr.lNil ?_
    exact Tr.again (k + 1) (by omega) (by omega) (lk_cons rfl (lk_cons rfl (lk_cons rfl (lk_cons rfl (lk_cons rfl (lk_nil _)))))) (by rw [hset]; exact List.Sublist.refl _)
  · simp only [decide_eq_false_iff_not] at hF0
    refine Tr.exit ?_
    refine Tr.thenX ?_
    refine Tr.thenX ?_
    refine Tr.inHit ?_
    refine Tr.thenN ?_
    refine Tr.seq ?_
    refine Tr.region ?_
    refine Tr.val (V.loadN (cs := (addSt a b k).1.map U64) Tryd.isAgg82 (by rw [List.length_map, addSt_len]; exact Tryd.sizeOf82) rfl (V.cellsB (by repeat (first | exact List.Mem.head _ | apply List.Mem.tail)))) rfl ?_
    refine Tr.op (W.storeAll (vs := (addSt a b k).1.map U64) (cs := (addSt a b k).1.map U64) Tryd.sizeOf82 rfl rfl (by rw [List.length_map, addSt_len]) (by rw [List.length_map, addSt_len]) (one64 _) (by repeat (first | exact Upd.head | apply Upd.tail)) ?_)
    refine Tr.lNil ?_
    refine Tr.thenN ?_
    refine Tr.ret ?_
    refine Tr.out1 rfl (Res.cellN (cs := (addSt a b k).1.map U64) rfl Tryd.isAgg82 (by rw [List.length_map, addSt_len]; exact Tryd.sizeOf82) (by repeat (first | exact List.Mem.head _ | apply List.Mem.tail))) fun w hw => ?_
    obtain rfl : k = 3 := by omega
    exact ⟨rfl, hw.sub (List.nil_sublist _)⟩

theorem mul64_any (X Y : BitVec 64) (w : World) : Calls Tryd.prog 61 [U64 X, U64 Y].toArray w fun r w' => r = .returned (.tuple #[U64 (mulHi X Y), U64 (X * Y)]) ∧ Hp w [] [] w' := by
  refine Tr.enter Tryd.func61 rfl Tryd.ntmps61 rfl (Hp.refl w) ?_
  refine Tr.seq ?_
  refine Tr.region ?_
  refine Tr.val (V.assign (v := U64 0#64) rfl) rfl ?_
  refine Tr.val (V.assign (v := U64 0#64) rfl) rfl ?_
  refine Tr.lNil ?_
  refine Tr.thenN ?_
  refine Tr.seq ?_
  refine Tr.region ?_
  refine Tr.val (V.move rfl) rfl ?_
  refine Tr.val (V.and64 (Y := 4294967295#64) rfl rfl) rfl ?_
  refine Tr.val (V.assign rfl) rfl ?_
  refine Tr.lNil ?_
  refine Tr.thenN ?_
  refine Tr.seq ?_
  refine Tr.region ?_
  refine Tr.val (V.move rfl) rfl ?_
  refine Tr.val (V.shr64 (s := 32) rfl rfl) rfl ?_
  refine Tr.val (V.assign rfl) rfl ?_
  refine Tr.lNil ?_
  refine Tr.thenN ?_
  refine Tr.seq ?_
  refine Tr.region ?_
  refine Tr.val (V.move rfl) rfl ?_
  refine Tr.val (V.and64 (Y := 4294967295#64) rfl rfl) rfl ?_
  refine Tr.val (V.assign rfl) rfl ?_
  refine Tr.lNil ?_
  refine Tr.thenN ?_
  refine Tr.seq ?_
  refine Tr.region ?_
  refine Tr.val (V.move rfl) rfl ?_
  refine Tr.val (V.shr64 (s := 32) rfl rfl) rfl ?_
  refine Tr.val (V.assign rfl) rfl ?_
  refine Tr.lNil ?_
  refine Tr.thenN ?_
  refine Tr.seq ?_
  refine Tr.region ?_
  refine Tr.val (V.move rfl) rfl ?_
  refine Tr.val (V.move rfl) rfl ?_
  refine Tr.val (V.mul64 rfl rfl) rfl ?_
  refine Tr.val (V.assign rfl) rfl ?_
  refine Tr.lNil ?_
  refine Tr.thenN ?_
  refine Tr.seq ?_
  refine Tr.region ?_
  refine Tr.val (V.move rfl) rfl ?_
  refine Tr.val (V.move rfl) rfl ?_
  refine Tr.val (V.mul64 rfl rfl) rfl ?_
  refine Tr.val (V.move rfl) rfl ?_
  refine Tr.val (V.shr64 (s := 32) rfl rfl) rfl ?_
  refine Tr.val (V.add64 rfl rfl) rfl ?_
  refine Tr.val (V.assign rfl) rfl ?_
  refine Tr.lNil ?_
  refine Tr.thenN ?_
  refine Tr.seq ?_
  refine Tr.region ?_
  refine Tr.val (V.move rfl) rfl ?_
  refine Tr.val (V.and64 (Y := 4294967295#64) rfl rfl) rfl ?_
  refine Tr.val (V.assign rfl) rfl ?_
  refine Tr.lNil ?_
  refine Tr.thenN ?_
  refine Tr.seq ?_
  refine Tr.region ?_
  refine Tr.val (V.move rfl) rfl ?_
  refine Tr.val (V.shr64 (s := 32) rfl rfl) rfl ?_
  refine Tr.val (V.assign rfl) rfl ?_
  refine Tr.lNil ?_
  refine Tr.thenN ?_
  refine Tr.seq ?_
  refine Tr.region ?_
  refine Tr.val (V.move rfl) rfl ?_
  refine Tr.val (V.move rfl) rfl ?_
  refine Tr.val (V.move rfl) rfl ?_
  refine Tr.val (V.mul64 rfl rfl) rfl ?_
  refine Tr.val (V.add64 rfl rfl) rfl ?_
  refine Tr.val (V.assign rfl) rfl ?_
  refine Tr.lNil ?_
  refine Tr.thenN ?_
  refine Tr.seq ?_
  refine Tr.region ?_
  refine Tr.val (V.move rfl) rfl ?_
  refine Tr.val (V.move rfl) rfl ?_
  refine Tr.val (V.mul64 rfl rfl) rfl ?_
  refine Tr.val (V.move rfl) rfl ?_
  refine Tr.val (V.add64 rfl rfl) rfl ?_
  refine Tr.val (V.move rfl) rfl ?_
  refine Tr.val (V.shr64 (s := 32) rfl rfl) rfl ?_
  refine Tr.val (V.add64 rfl rfl) rfl ?_
  refine Tr.val (V.assign rfl) rfl ?_
  refine Tr.lNil ?_
  refine Tr.thenN ?_
  refine Tr.seq ?_
  refine Tr.region ?_
  refine Tr.val (V.move rfl) rfl ?_
  refine Tr.val (V.move rfl) rfl ?_
  refine Tr.val (V.mul64 rfl rfl) rfl ?_
  refine Tr.val (V.assign rfl) rfl ?_
  refine Tr.lNil ?_
  refine Tr.thenN ?_
  refine Tr.ret ?_
  refine Tr.out2 rfl (Res.tmp rfl) (Res.tmp rfl) fun w hw => ?_
  exact ⟨rfl, hw⟩

theorem plus_nat (x y : Nat) (w : World) (hx : x < 6277101735386680763835789423207666416102355444464034512896) (hy : y < 6277101735386680763835789423207666416102355444464034512896) :
    Calls Tryd.prog 51 [.agg ((nat3 x).map U64).toArray, .agg ((nat3 y).map U64).toArray].toArray w fun r w' => r = .returned (.agg ((nat3 ((x + y) % 6277101735386680763835789423207666416102355444464034512896)).map U64).toArray) ∧ Hp w [] [] w' := by
  have h := plus_any (nat3 x) (nat3 y) w rfl rfl
  rw [addSt_nat3 x y hx hy] at h
  exact h
set_option maxRecDepth 20000 in
theorem times_any (x : Nat) (r : List (BitVec 64)) (w : World) (hx : x < 6277101735386680763835789423207666416102355444464034512896) (hr : r.length = 2) (hM : x * val r < 115792089237316195423570985008687907853269984665640564039457584007913129639936) :
    Calls Tryd.prog 52 [.agg ((nat3 x).map U64).toArray, .agg (r.map U64).toArray].toArray w fun e w' => e = .returned (.agg ((nat3 ((x * val r) % 1361129467683753853853498429727072845824 + 5 * ((x * val r) / 1361129467683753853853498429727072845824))).map U64).toArray) ∧ Hp w [] [] w' := by
  obtain ⟨a, ha⟩ : ∃ a, a = nat3 x := ⟨_, rfl⟩
  have hal : a.length = 3 := by rw [ha]; rfl
  have hav : val a = x := by rw [ha]; exact nat3_val x hx
  have hT6 := TT_six a r hal hr
  rw [hav] at hT6
  rw [← ha]
  obtain ⟨M, hMM⟩ : ∃ M, M = x * val r := ⟨_, rfl⟩
  rw [← hMM] at hM hT6 ⊢
  refine Tr.enter Tryd.func52 rfl Tryd.ntmps52 rfl (Hp.refl w) ?_
  refine Tr.seq ?_
  refine Tr.region ?_
  refine Tr.op (W.box (cs := a.map U64) rfl rfl rfl fun g2 => ?_)
  refine Tr.op (W.box (cs := r.map U64) rfl rfl rfl fun g3 => ?_)
  refine Tr.op (W.alloc (cs := [0#64, 0#64, 0#64].map U64) Tryd.zeroValue82 rfl rfl fun g4 => ?_)
  refine Tr.lNil ?_
  refine Tr.thenN ?_
  refine Tr.seq ?_
  refine Tr.region ?_
  refine Tr.op (W.alloc (cs := [0#64, 0#64, 0#64, 0#64, 0#64].map U64) Tryd.zeroValue96 rfl rfl fun g5 => ?_)
  refine Tr.lNil ?_
  refine Tr.thenN ?_
  refine Tr.seq ?_
  refine Tr.seq ?_
  refine Tr.region ?_
  refine Tr.val (V.loadN (cs := a.map U64) Tryd.isAgg82 (by rw [List.length_map, hal]; exact Tryd.sizeOf82) rfl (V.cellsB (by repeat (first | exact List.Mem.head _ | apply List.Mem.tail)))) rfl ?_
  refine Tr.val (V.move rfl) rfl ?_
  refine Tr.lNil ?_
  refine Tr.thenN ?_
  refine Tr.block ?_
  refine Tr.loop (ι := Nat × List (BitVec 64)) (fun x => x.1 ≤ 3 ∧ x.2.length = 5 ∧ val x.2 = TT a r (2 * x.1)) (fun x => [(2, .pointer (some ⟨g2, 0, none⟩)), (3, .pointer (some ⟨g3, 0, none⟩)), (4, .pointer (some ⟨g4, 0, none⟩)), (5, .pointer (some ⟨g5, 0, none⟩)), (17, .agg (a.map U64).toArray), (18, .int .i64 (x.1 : Int))]) (fun x => [⟨g5, 96, x.2.map U64⟩, ⟨g4, 82, [0#64, 0#64, 0#64].map U64⟩, ⟨g3, 80, r.map U64⟩, ⟨g2, 82, a.map U64⟩]) (fun x => 3 - x.1) (0, [0#64, 0#64, 0#64, 0#64, 0#64]) ⟨by omega, rfl, rfl⟩ (lk_cons rfl (lk_cons rfl (lk_cons rfl (lk_cons rfl (lk_cons rfl (lk_cons rfl (lk_nil _))))))) (List.Sublist.refl _) fun x hI => ?_
  obtain ⟨i, p⟩ := x
  obtain ⟨hi3, hpl, hpv⟩ := hI
  simp only at hi3 hpl hpv
  refine Tr.seq ?_
  refine Tr.region ?_
  refine Tr.val (V.lss rfl rfl rfl) rfl ?_
  refine Tr.lNil ?_
  refine Tr.thenN ?_
  refine Tr.seq ?_
  refine Tr.cond rfl (fun hT0 => ?_) (fun hF0 => ?_)
  · simp only [decide_eq_true_eq] at hT0
    refine Tr.skip ?_
    refine Tr.thenN ?_
    refine Tr.seq ?_
    refine Tr.block ?_
    refine Tr.seq ?_
    refine Tr.region ?_
    refine Tr.val (V.move rfl) rfl ?_
    refine Tr.val (V.index1 (cs := a.map U64) (j := i) Tryd.runUnderlying82 Tryd.sizeOf53 Tryd.isAgg53 rfl rfl rfl (by omega) (getU a i (by omega))) rfl ?_
    refine Tr.val (V.assign rfl) rfl ?_
    refine Tr.val (V.assign rfl) rfl ?_
    refine Tr.lNil ?_
    refine Tr.thenN ?_
    refine Tr.seq ?_
    refine Tr.region ?_
    refine Tr.val (V.loadN (cs := r.map U64) Tryd.isAgg80 (by rw [List.length_map, hr]; exact Tryd.sizeOf80) rfl (V.cellsB (by repeat (first | exact List.Mem.head _ | apply List.Mem.tail)))) rfl ?_
    refine Tr.val (V.move rfl) rfl ?_
    refine Tr.lNil ?_
    refine Tr.thenN ?_
    refine Tr.block ?_
    refine Tr.loop (ι := Nat × List (BitVec 64)) (fun x => x.1 ≤ 2 ∧ x.2.length = 5 ∧ val x.2 = TT a r (2 * i + x.1)) (fun x => [(2, .pointer (some ⟨g2, 0, none⟩)), (3, .pointer (some ⟨g3, 0, none⟩)), (4, .pointer (some ⟨g4, 0, none⟩)), (5, .pointer (some ⟨g5, 0, none⟩)), (17, .agg (a.map U64).toArray), (18, .int .i64 (i : Int)), (6, .int .i64 (i : Int)), (7, U64 (a.getD i 0#64)), (22, .agg (r.map U64).toArray), (23, .int .i64 (x.1 : Int))]) (fun x => [⟨g5, 96, x.2.map U64⟩, ⟨g4, 82, [0#64, 0#64, 0#64].map U64⟩, ⟨g3, 80, r.map U64⟩, ⟨g2, 82, a.map U64⟩]) (fun x => 2 - x.1) (0, p) ⟨by omega, hpl, by rw [hpv]; rfl⟩ (lk_cons rfl (lk_cons rfl (lk_cons rfl (lk_cons rfl (lk_cons rfl (lk_cons rfl (lk_cons rfl (lk_cons rfl (lk_cons rfl (lk_cons rfl (lk_nil _))))))))))) (List.Sublist.refl _) fun x hI => ?_
    obtain ⟨k, p⟩ := x
    obtain ⟨hk2, hpl, hpv⟩ := hI
    simp only at hk2 hpl hpv
    refine Tr.seq ?_
    refine Tr.region ?_
    refine Tr.val (V.lss rfl rfl rfl) rfl ?_
    refine Tr.lNil ?_
    refine Tr.thenN ?_
    refine Tr.seq ?_
    refine Tr.cond rfl (fun hT1 => ?_) (fun hF1 => ?_)
    · simp only [decide_eq_true_eq] at hT1
      obtain ⟨c1, hc1⟩ : ∃ c1, c1 = cy64 (p.getD (i + k) 0#64) (a.getD i 0#64 * r.getD k 0#64) 0#64 := ⟨_, rfl⟩
      obtain ⟨P1, hP1⟩ : ∃ P1, P1 = p.set (i + k) (p.getD (i + k) 0#64 + a.getD i 0#64 * r.getD k 0#64 + 0#64) := ⟨_, rfl⟩
      obtain ⟨P2, hP2⟩ : ∃ P2, P2 = P1.set (i + k + 1) (P1.getD (i + k + 1) 0#64 + mulHi (a.getD i 0#64) (r.getD k 0#64) + c1) := ⟨_, rfl⟩
      have hP1l : P1.length = 5 := by rw [hP1, List.length_set, hpl]
      have hP2l : P2.length = 5 := by rw [hP2, List.length_set, hP1l]
      have hTl : TT a r (2 * i + k + 1) ≤ M := by
        rw [← hT6]
        have := TT_le a r (2 * i + k + 1) (6 - (2 * i + k + 1))
        rwa [show 2 * i + k + 1 + (6 - (2 * i + k + 1)) = 6 by omega] at this
      have hV : val P2 + (cy64 (P1.getD (i + k + 1) 0#64) (mulHi (a.getD i 0#64) (r.getD k 0#64)) c1).toNat * 18446744073709551616 ^ (i + k + 2) = TT a r (2 * i + k + 1) := by
        rw [mul_step p P1 P2 (i + k) _ _ c1 (by omega) hc1 hP1 hP2, TT_step a r i k (by omega), hpv]
        rfl
      refine Tr.skip ?_
      refine Tr.thenN ?_
      refine Tr.seq ?_
      refine Tr.block ?_
      refine Tr.seq ?_
      refine Tr.region ?_
      refine Tr.val (V.move rfl) rfl ?_
      refine Tr.val (V.index1 (cs := r.map U64) (j := k) Tryd.runUnderlying80 Tryd.sizeOf53 Tryd.isAgg53 rfl rfl rfl (by omega) (getU r k (by omega))) rfl ?_
      refine Tr.val (V.assign rfl) rfl ?_
      refine Tr.val (V.assign rfl) rfl ?_
      refine Tr.lNil ?_
      refine Tr.thenN ?_
      refine Tr.seq ?_
      refine Tr.region ?_
      refine Tr.val (V.move rfl) rfl ?_
      refine Tr.val (V.move rfl) rfl ?_
      refine Tr.op (W.call1 (args2 rfl rfl) Tryd.call61 rfl (fun w _ => mul64_any _ _ w) ?_)
      refine Tr.val (V.move rfl) rfl ?_
      refine Tr.val (V.extract rfl rfl) rfl ?_
      refine Tr.val (V.extract rfl rfl) rfl ?_
      refine Tr.val (V.assign rfl) rfl ?_
      refine Tr.val (V.assign rfl) rfl ?_
      refine Tr.lNil ?_
      refine Tr.thenN ?_
      refine Tr.seq ?_
      refine Tr.region ?_
      refine Tr.val (V.assign (v := U64 0#64) rfl) rfl ?_
      refine Tr.lNil ?_
      refine Tr.thenN ?_
      refine Tr.seq ?_
      refine Tr.region ?_
      refine Tr.val (V.move rfl) rfl ?_
      refine Tr.val (V.move rfl) rfl ?_
      refine Tr.val (V.addN rfl rfl (by omega)) rfl ?_
      refine Tr.val (V.move rfl) rfl ?_
      refine Tr.val (V.move rfl) rfl ?_
      refine Tr.val (V.addN rfl rfl (by omega)) rfl ?_
      refine Tr.val (V.idxA (j := i + k) (o' := i + k) Tryd.runUnderlying96 Tryd.sizeOf53 rfl rfl (by omega) (by omega) (by omega)) rfl ?_
      refine Tr.val (V.load1 Tryd.isAgg53 rfl (V.cellB (by repeat (first | exact List.Mem.head _ | apply List.Mem.tail)) (getU p (i + k) (by omega)))) rfl ?_
      refine Tr.val (V.move rfl) rfl ?_
      refine Tr.val (V.callE (v := .tuple #[U64 (p.getD (i + k) 0#64 + a.getD i 0#64 * r.getD k 0#64 + 0#64), U64 c1]) (vs := [U64 (p.getD (i + k) 0#64), U64 (a.getD i 0#64 * r.getD k 0#64), U64 0#64]) (args3 rfl rfl rfl) (by rw [hc1]; exact add64_run add64_call _ _ _ (by decide))) rfl ?_
      refine Tr.val (V.move rfl) rfl ?_
      refine Tr.val (V.extract rfl rfl) rfl ?_
      refine Tr.val (V.extract rfl rfl) rfl ?_
      refine Tr.val (V.idxA (j := i + k) (o' := i + k) Tryd.runUnderlying96 Tryd.sizeOf53 rfl rfl (by omega) (by omega) (by omega)) rfl ?_
      refine Tr.op (W.store1E (cs := p.map U64) (v := U64 (p.getD (i + k) 0#64 + a.getD i 0#64 * r.getD k 0#64 + 0#64)) (cs' := P1.map U64) Tryd.sizeOf53 rfl rfl rfl rfl (by rw [hP1, List.map_set]) (by repeat (first | exact Upd.head | apply Upd.tail)) (by rw [List.length_map]; omega) ?_)
      refine Tr.val (V.assign rfl) rfl ?_
      refine Tr.lNil ?_
      refine Tr.thenN ?_
      refine Tr.seq ?_
      refine Tr.region ?_
      refine Tr.val (V.move rfl) rfl ?_
      refine Tr.val (V.move rfl) rfl ?_
      refine Tr.val (V.addN rfl rfl (by omega)) rfl ?_
      refine Tr.val (V.addN (b := 1) rfl rfl (by omega)) rfl ?_
      refine Tr.val (V.move rfl) rfl ?_
      refine Tr.val (V.move rfl) rfl ?_
      refine Tr.val (V.addN rfl rfl (by omega)) rfl ?_
      refine Tr.val (V.addN (b := 1) rfl rfl (by omega)) rfl ?_
      refine Tr.val (V.idxA (j := i + k + 1) (o' := i + k + 1) Tryd.runUnderlying96 Tryd.sizeOf53 rfl rfl (by omega) (by omega) (by omega)) rfl ?_
      refine Tr.val (V.load1 Tryd.isAgg53 rfl (V.cellB (by repeat (first | exact List.Mem.head _ | apply List.Mem.tail)) (getU P1 (i + k + 1) (by omega)))) rfl ?_
      refine Tr.val (V.move rfl) rfl ?_
      refine Tr.val (V.move rfl) rfl ?_
      refine Tr.val (V.callE (vs := [U64 (P1.getD (i + k + 1) 0#64), U64 (mulHi (a.getD i 0#64) (r.getD k 0#64)), U64 c1]) (args3 rfl rfl rfl) (add64_run add64_call _ _ _ (by rw [hc1]; exact cy_le _ _ _ (by decide)))) rfl ?_
      refine Tr.val (V.move rfl) rfl ?_
      refine Tr.val (V.extract rfl rfl) rfl ?_
      refine Tr.val (V.extract rfl rfl) rfl ?_
      refine Tr.val (V.idxA (j := i + k + 1) (o' := i + k + 1) Tryd.runUnderlying96 Tryd.sizeOf53 rfl rfl (by omega) (by omega) (by omega)) rfl ?_
      refine Tr.op (W.store1E (cs := P1.map U64) (v := U64 (P1.getD (i + k + 1) 0#64 + mulHi (a.getD i 0#64) (r.getD k 0#64) + c1)) (cs' := P2.map U64) Tryd.sizeOf53 rfl rfl rfl rfl (by rw [hP2, List.map_set]) (by repeat (first | exact Upd.head | apply Upd.tail)) (by rw [List.length_map]; omega) ?_)
      refine Tr.val (V.assign rfl) rfl ?_
      refine Tr.lNil ?_
      refine Tr.thenN ?_
      refine Tr.seq ?_
      refine Tr.region ?_
      refine Tr.val (V.move rfl) rfl ?_
      refine Tr.val (V.move rfl) rfl ?_
      refine Tr.val (V.addN rfl rfl (by omega)) rfl ?_
      refine Tr.val (V.addN (b := 2) rfl rfl (by omega)) rfl ?_
      refine Tr.val (V.assign rfl) rfl ?_
      refine Tr.lNil ?_
      refine Tr.thenN ?_
      refine Tr.block ?_
      refine Tr.loop (ι := Nat × List (BitVec 64) × BitVec 64) (fun x => x.1 ≤ 5 ∧ x.2.1.length = 5 ∧ x.2.2.toNat ≤ 1 ∧ val x.2.1 + x.2.2.toNat * 18446744073709551616 ^ x.1 = TT a r (2 * i + k + 1)) (fun x => [(2, .pointer (some ⟨g2, 0, none⟩)), (3, .pointer (some ⟨g3, 0, none⟩)), (4, .pointer (some ⟨g4, 0, none⟩)), (5, .pointer (some ⟨g5, 0, none⟩)), (17, .agg (a.map U64).toArray), (18, .int .i64 (i : Int)), (6, .int .i64 (i : Int)), (7, U64 (a.getD i 0#64)), (22, .agg (r.map U64).toArray), (23, .int .i64 (k : Int)), (12, U64 x.2.2), (13, .int .i64 (x.1 : Int))]) (fun x => [⟨g5, 96, x.2.1.map U64⟩, ⟨g4, 82, [0#64, 0#64, 0#64].map U64⟩, ⟨g3, 80, r.map U64⟩, ⟨g2, 82, a.map U64⟩]) (fun x => 5 - x.1) (i + k + 2, P2, cy64 (P1.getD (i + k + 1) 0#64) (mulHi (a.getD i 0#64) (r.getD k 0#64)) c1) ⟨by omega, hP2l, cy_le _ _ _ (by rw [hc1]; exact cy_le _ _ _ (by decide)), hV⟩ (lk_cons rfl (lk_cons rfl (lk_cons rfl (lk_cons rfl (lk_cons rfl (lk_cons rfl (lk_cons rfl (lk_cons rfl (lk_cons rfl (lk_cons rfl (lk_cons rfl (lk_cons rfl (lk_nil _))))))))))))) (List.Sublist.refl _) fun x hI => ?_
      obtain ⟨n, q, c⟩ := x
      obtain ⟨hn5, hql, hc, hqv⟩ := hI
      simp only at hn5 hql hc hqv
      have h3 : (0 < c.toNat ∧ n < 5) ∨ c.toNat = 0 := by
        by_cases h0 : c.toNat = 0
        · exact .inr h0
        · refine .inl ⟨by omega, ?_⟩
          rcases Nat.lt_or_ge n 5 with h5 | h5
          · exact h5
          · obtain rfl : n = 5 := by omega
            obtain h1 : c.toNat = 1 := by omega
            rw [h1] at hqv
            omega
      rcases h3 with ⟨hcp, hlt⟩ | hc0
      · have hgt : decide (0#64 < c) = true := by rw [decide_eq_true_eq, BitVec.lt_def]; exact hcp
        obtain ⟨q2, hq2⟩ : ∃ q2, q2 = q.set n (q.getD n 0#64 + 0#64 + c) := ⟨_, rfl⟩
        have hq2l : q2.length = 5 := by rw [hq2, List.length_set, hql]
        have hq2v : val q2 + (cy64 (q.getD n 0#64) 0#64 c).toNat * 18446744073709551616 ^ (n + 1) = TT a r (2 * i + k + 1) := by
          have h := val_add q n 0#64 c (by omega)
          rw [← hq2, show (0#64).toNat = 0 from rfl, Nat.zero_add] at h
          rw [h, hqv]
        refine Tr.seq ?_
        refine Tr.seq ?_
        refine Tr.region ?_
        refine Tr.val (V.move rfl) rfl ?_
        refine Tr.val (V.gtr64 (Y := 0#64) (b := true) rfl rfl hgt) rfl ?_
        refine Tr.val (V.move rfl) rfl ?_
        refine Tr.valG rfl (V.move rfl) rfl ?_
        refine Tr.valG rfl (V.lss (b := true) rfl rfl (decide_eq_true (by omega))) rfl ?_
        refine Tr.val (V.pick rfl rfl) rfl ?_
        refine Tr.lNil ?_
        refine Tr.thenN ?_
        refine Tr.condT rfl ?_
        refine Tr.skip ?_
        refine Tr.thenN ?_
        refine Tr.seq ?_
        refine Tr.block ?_
        refine Tr.region ?_
        refine Tr.val (V.move rfl) rfl ?_
        refine Tr.val (V.move rfl) rfl ?_
        refine Tr.val (V.idxA (j := n) (o' := n) Tryd.runUnderlying96 Tryd.sizeOf53 rfl rfl (by omega) (by omega) (by omega)) rfl ?_
        refine Tr.val (V.load1 Tryd.isAgg53 rfl (V.cellB (by repeat (first | exact List.Mem.head _ | apply List.Mem.tail)) (getU q n (by omega)))) rfl ?_
        refine Tr.val (V.move rfl) rfl ?_
        refine Tr.val (V.callE (vs := [U64 (q.getD n 0#64), U64 0#64, U64 c]) (args3 rfl rfl rfl) (add64_run add64_call _ _ _ hc)) rfl ?_
        refine Tr.val (V.move rfl) rfl ?_
        refine Tr.val (V.extract rfl rfl) rfl ?_
        refine Tr.val (V.extract rfl rfl) rfl ?_
        refine Tr.val (V.idxA (j := n) (o' := n) Tryd.runUnderlying96 Tryd.sizeOf53 rfl rfl (by omega) (by omega) (by omega)) rfl ?_
        refine Tr.op (W.store1E (cs := q.map U64) (v := U64 (q.getD n 0#64 + 0#64 + c)) (cs' := q2.map U64) Tryd.sizeOf53 rfl rfl rfl rfl (by rw [hq2, List.map_set]) (by repeat (first | exact Upd.head | apply Upd.tail)) (by rw [List.length_map]; omega) ?_)
        refine Tr.val (V.assign rfl) rfl ?_
        refine Tr.lNil ?_
        refine Tr.inN ?_
        refine Tr.thenN ?_
        refine Tr.region ?_
        refine Tr.val (V.move rfl) rfl ?_
        refine Tr.val (V.add rfl rfl (by omega)) rfl ?_
        refine Tr.val (V.assign rfl) rfl ?_
        refine Tr.lNil ?_
        exact Tr.again (n + 1, q2, cy64 (q.getD n 0#64) 0#64 c) ⟨by omega, hq2l, cy_le _ _ _ hc, hq2v⟩ (by simp only; omega) (lk_cons rfl (lk_cons rfl (lk_cons rfl (lk_cons rfl (lk_cons rfl (lk_cons rfl (lk_cons rfl (lk_cons rfl (lk_cons rfl (lk_cons rfl (lk_cons rfl (lk_cons rfl (lk_nil _))))))))))))) (List.Sublist.refl _)
      · have hgt : decide (0#64 < c) = false := by rw [decide_eq_false_iff_not, BitVec.lt_def]; rw [hc0]; exact Nat.lt_irrefl 0
        have hqe : val q = TT a r (2 * i + k + 1) := by rw [hc0, Nat.zero_mul, Nat.add_zero] at hqv; exact hqv
        refine Tr.seq ?_
        refine Tr.seq ?_
        refine Tr.region ?_
        refine Tr.val (V.move rfl) rfl ?_
        refine Tr.val (V.gtr64 (Y := 0#64) (b := false) rfl rfl hgt) rfl ?_
        refine Tr.val (V.move rfl) rfl ?_
        refine Tr.skipG rfl rfl rfl ?_
        refine Tr.skipG rfl rfl rfl ?_
        refine Tr.val (V.pick rfl rfl) rfl ?_
        refine Tr.lNil ?_
        refine Tr.thenN ?_
        refine Tr.condF rfl ?_
        refine Tr.exit ?_
        refine Tr.thenX ?_
        refine Tr.thenX ?_
        refine Tr.inHit ?_
        refine Tr.inN ?_
        refine Tr.thenN ?_
        refine Tr.region ?_
        refine Tr.val (V.add rfl rfl (by omega)) rfl ?_
        refine Tr.val (V.move rfl) rfl ?_
        refine Tr.lNil ?_
        exact Tr.again (k + 1, q) ⟨by omega, hql, hqe⟩ (by simp only; omega) (lk_cons rfl (lk_cons rfl (lk_cons rfl (lk_cons rfl (lk_cons rfl (lk_cons rfl (lk_cons rfl (lk_cons rfl (lk_cons rfl (lk_cons rfl (lk_nil _))))))))))) (List.Sublist.refl _)
    · simp only [decide_eq_false_iff_not] at hF1
      obtain rfl : k = 2 := by omega
      refine Tr.exit ?_
      refine Tr.thenX ?_
      refine Tr.thenX ?_
      refine Tr.inHit ?_
      refine Tr.inN ?_
      refine Tr.thenN ?_
      refine Tr.region ?_
      refine Tr.val (V.add rfl rfl (by omega)) rfl ?_
      refine Tr.val (V.move rfl) rfl ?_
      refine Tr.lNil ?_
      exact Tr.again (i + 1, p) ⟨by omega, hpl, hpv⟩ (by simp only; omega) (lk_cons rfl (lk_cons rfl (lk_cons rfl (lk_cons rfl (lk_cons rfl (lk_cons rfl (lk_nil _))))))) (List.Sublist.refl _)
  · simp only [decide_eq_false_iff_not] at hF0
    obtain rfl : i = 3 := by omega
    have hpM : val p = M := by rw [hpv, ← hT6]
    obtain ⟨hlow, hfour, hone⟩ := foldL_val p hpl (by rw [hpM]; exact hM)
    rw [hpM] at hlow hfour hone
    have hsum : ((M % 1361129467683753853853498429727072845824 + 4 * (M / 1361129467683753853853498429727072845824)) % 6277101735386680763835789423207666416102355444464034512896 + M / 1361129467683753853853498429727072845824) % 6277101735386680763835789423207666416102355444464034512896 = M % 1361129467683753853853498429727072845824 + 5 * (M / 1361129467683753853853498429727072845824) := by omega
    refine Tr.exit ?_
    refine Tr.thenX ?_
    refine Tr.thenX ?_
    refine Tr.inHit ?_
    refine Tr.thenN ?_
    refine Tr.seq ?_
    refine Tr.region ?_
    refine Tr.val (V.idxA (j := 0) (o' := 0) Tryd.runUnderlying96 Tryd.sizeOf53 rfl rfl rfl (by omega) rfl) rfl ?_
    refine Tr.val (V.load1 Tryd.isAgg53 rfl (V.cellB (by repeat (first | exact List.Mem.head _ | apply List.Mem.tail)) (getU p 0 (by omega)))) rfl ?_
    refine Tr.val (V.idxA (j := 1) (o' := 1) Tryd.runUnderlying96 Tryd.sizeOf53 rfl rfl rfl (by omega) rfl) rfl ?_
    refine Tr.val (V.load1 Tryd.isAgg53 rfl (V.cellB (by repeat (first | exact List.Mem.head _ | apply List.Mem.tail)) (getU p 1 (by omega)))) rfl ?_
    refine Tr.val (V.idxA (j := 2) (o' := 2) Tryd.runUnderlying96 Tryd.sizeOf53 rfl rfl rfl (by omega) rfl) rfl ?_
    refine Tr.val (V.load1 Tryd.isAgg53 rfl (V.cellB (by repeat (first | exact List.Mem.head _ | apply List.Mem.tail)) (getU p 2 (by omega)))) rfl ?_
    refine Tr.val (V.and64 (Y := 3#64) rfl rfl) rfl ?_
    refine Tr.val ((V.buildA (vs := [(0, U64 ((lowL p).getD 0 0#64)), (1, U64 ((lowL p).getD 1 0#64)), (2, U64 ((lowL p).getD 2 0#64))]) (cs := ((lowL p).map U64).toArray) Tryd.runUnderlying82 Tryd.sizeOf53 Tryd.zeroValue82 (fun a he => by simp [he.eval (x := .tmp 89) (v := U64 ((lowL p).getD 0 0#64)) rfl, he.eval (x := .tmp 91) (v := U64 ((lowL p).getD 1 0#64)) rfl, he.eval (x := .tmp 94) (v := U64 ((lowL p).getD 2 0#64)) rfl]) rfl)) rfl ?_
    refine Tr.op (W.alloc (cs := [0#64, 0#64, 0#64].map U64) Tryd.zeroValue82 rfl rfl fun g14 => ?_)
    refine Tr.op (W.storeAll (vs := (lowL p).map U64) (cs := [0#64, 0#64, 0#64].map U64) Tryd.sizeOf82 rfl rfl rfl rfl (one64 _) (by repeat (first | exact Upd.head | apply Upd.tail)) ?_)
    refine Tr.lNil ?_
    refine Tr.thenN ?_
    refine Tr.seq ?_
    refine Tr.region ?_
    refine Tr.val (V.idxA (j := 2) (o' := 2) Tryd.runUnderlying96 Tryd.sizeOf53 rfl rfl rfl (by omega) rfl) rfl ?_
    refine Tr.val (V.load1 Tryd.isAgg53 rfl (V.cellB (by repeat (first | exact List.Mem.head _ | apply List.Mem.tail)) (getU p 2 (by omega)))) rfl ?_
    refine Tr.val (V.andNot64 (Y := 3#64) rfl rfl) rfl ?_
    refine Tr.val (V.idxA (j := 3) (o' := 3) Tryd.runUnderlying96 Tryd.sizeOf53 rfl rfl rfl (by omega) rfl) rfl ?_
    refine Tr.val (V.load1 Tryd.isAgg53 rfl (V.cellB (by repeat (first | exact List.Mem.head _ | apply List.Mem.tail)) (getU p 3 (by omega)))) rfl ?_
    refine Tr.val (V.idxA (j := 4) (o' := 4) Tryd.runUnderlying96 Tryd.sizeOf53 rfl rfl rfl (by omega) rfl) rfl ?_
    refine Tr.val (V.load1 Tryd.isAgg53 rfl (V.cellB (by repeat (first | exact List.Mem.head _ | apply List.Mem.tail)) (getU p 4 (by omega)))) rfl ?_
    refine Tr.val ((V.buildA (vs := [(0, U64 ((fourL p).getD 0 0#64)), (1, U64 ((fourL p).getD 1 0#64)), (2, U64 ((fourL p).getD 2 0#64))]) (cs := ((fourL p).map U64).toArray) Tryd.runUnderlying82 Tryd.sizeOf53 Tryd.zeroValue82 (fun a he => by simp [he.eval (x := .tmp 98) (v := U64 ((fourL p).getD 0 0#64)) rfl, he.eval (x := .tmp 100) (v := U64 ((fourL p).getD 1 0#64)) rfl, he.eval (x := .tmp 102) (v := U64 ((fourL p).getD 2 0#64)) rfl]) rfl)) rfl ?_
    refine Tr.op (W.alloc (cs := [0#64, 0#64, 0#64].map U64) Tryd.zeroValue82 rfl rfl fun g15 => ?_)
    refine Tr.op (W.storeAll (vs := (fourL p).map U64) (cs := [0#64, 0#64, 0#64].map U64) Tryd.sizeOf82 rfl rfl rfl rfl (one64 _) (by repeat (first | exact Upd.head | apply Upd.tail)) ?_)
    refine Tr.lNil ?_
    refine Tr.thenN ?_
    refine Tr.seq ?_
    refine Tr.region ?_
    refine Tr.val (V.idxA (j := 0) (o' := 0) Tryd.runUnderlying82 Tryd.sizeOf53 rfl rfl rfl (by omega) rfl) rfl ?_
    refine Tr.val (V.load1 Tryd.isAgg53 rfl (V.cellB (by repeat (first | exact List.Mem.head _ | apply List.Mem.tail)) (getU (fourL p) 0 (show 0 < 3 by decide)))) rfl ?_
    refine Tr.val (V.shr64 (s := 2) rfl rfl) rfl ?_
    refine Tr.val (V.idxA (j := 1) (o' := 1) Tryd.runUnderlying82 Tryd.sizeOf53 rfl rfl rfl (by omega) rfl) rfl ?_
    refine Tr.val (V.load1 Tryd.isAgg53 rfl (V.cellB (by repeat (first | exact List.Mem.head _ | apply List.Mem.tail)) (getU (fourL p) 1 (show 1 < 3 by decide)))) rfl ?_
    refine Tr.val (V.shl64 (s := 62) rfl rfl) rfl ?_
    refine Tr.val (V.or64 rfl rfl) rfl ?_
    refine Tr.val (V.idxA (j := 1) (o' := 1) Tryd.runUnderlying82 Tryd.sizeOf53 rfl rfl rfl (by omega) rfl) rfl ?_
    refine Tr.val (V.load1 Tryd.isAgg53 rfl (V.cellB (by repeat (first | exact List.Mem.head _ | apply List.Mem.tail)) (getU (fourL p) 1 (show 1 < 3 by decide)))) rfl ?_
    refine Tr.val (V.shr64 (s := 2) rfl rfl) rfl ?_
    refine Tr.val (V.idxA (j := 2) (o' := 2) Tryd.runUnderlying82 Tryd.sizeOf53 rfl rfl rfl (by omega) rfl) rfl ?_
    refine Tr.val (V.load1 Tryd.isAgg53 rfl (V.cellB (by repeat (first | exact List.Mem.head _ | apply List.Mem.tail)) (getU (fourL p) 2 (show 2 < 3 by decide)))) rfl ?_
    refine Tr.val (V.shl64 (s := 62) rfl rfl) rfl ?_
    refine Tr.val (V.or64 rfl rfl) rfl ?_
    refine Tr.val (V.idxA (j := 2) (o' := 2) Tryd.runUnderlying82 Tryd.sizeOf53 rfl rfl rfl (by omega) rfl) rfl ?_
    refine Tr.val (V.load1 Tryd.isAgg53 rfl (V.cellB (by repeat (first | exact List.Mem.head _ | apply List.Mem.tail)) (getU (fourL p) 2 (show 2 < 3 by decide)))) rfl ?_
    refine Tr.val (V.shr64 (s := 2) rfl rfl) rfl ?_
    refine Tr.val ((V.buildA (vs := [(0, U64 ((oneL (fourL p)).getD 0 0#64)), (1, U64 ((oneL (fourL p)).getD 1 0#64)), (2, U64 ((oneL (fourL p)).getD 2 0#64))]) (cs := ((oneL (fourL p)).map U64).toArray) Tryd.runUnderlying82 Tryd.sizeOf53 Tryd.zeroValue82 (fun a he => by simp [he.eval (x := .tmp 110) (v := U64 ((oneL (fourL p)).getD 0 0#64)) rfl, he.eval (x := .tmp 117) (v := U64 ((oneL (fourL p)).getD 1 0#64)) rfl, he.eval (x := .tmp 120) (v := U64 ((oneL (fourL p)).getD 2 0#64)) rfl]) rfl)) rfl ?_
    refine Tr.op (W.alloc (cs := [0#64, 0#64, 0#64].map U64) Tryd.zeroValue82 rfl rfl fun g16 => ?_)
    refine Tr.op (W.storeAll (vs := (oneL (fourL p)).map U64) (cs := [0#64, 0#64, 0#64].map U64) Tryd.sizeOf82 rfl rfl rfl rfl (one64 _) (by repeat (first | exact Upd.head | apply Upd.tail)) ?_)
    refine Tr.lNil ?_
    refine Tr.thenN ?_
    refine Tr.seq ?_
    refine Tr.regionD [0, 0, 3, 0, 15, 31] [5] (.soft 0 (.soft 1 (.soft 2 (.soft 3 (.soft 4 (.hard 5 .done)))))) mixed (by kernel_rfl) ?_
    refine TrP.soft rfl (V.loadN (cs := (lowL p).map U64) Tryd.isAgg82 Tryd.sizeOf82 rfl (V.cellsB (by repeat (first | exact List.Mem.head _ | apply List.Mem.tail)))) rfl ?_
    refine TrP.soft rfl (V.loadN (cs := (fourL p).map U64) Tryd.isAgg82 Tryd.sizeOf82 rfl (V.cellsB (by repeat (first | exact List.Mem.head _ | apply List.Mem.tail)))) rfl ?_
    refine TrP.call rfl (args2 rfl rfl) Tryd.call51 rfl (fun w _ => by rw [hlow, hfour]; exact plus_nat _ _ w (by omega) (by omega)) ?_
    refine TrP.soft rfl (V.loadN (cs := (oneL (fourL p)).map U64) Tryd.isAgg82 Tryd.sizeOf82 rfl (V.cellsB (by repeat (first | exact List.Mem.head _ | apply List.Mem.tail)))) rfl ?_
    refine TrP.call rfl (args2 rfl rfl) Tryd.call51 rfl (fun w _ => by rw [hone]; have h := plus_nat ((M % 1361129467683753853853498429727072845824 + 4 * (M / 1361129467683753853853498429727072845824)) % 6277101735386680763835789423207666416102355444464034512896) (M / 1361129467683753853853498429727072845824) w (by omega) (by omega); rw [hsum] at h; exact h) ?_
    refine TrP.hard rfl (W.storeAll (vs := (nat3 (M % 1361129467683753853853498429727072845824 + 5 * (M / 1361129467683753853853498429727072845824))).map U64) (cs := [0#64, 0#64, 0#64].map U64) Tryd.sizeOf82 rfl rfl rfl rfl (one64 _) (by repeat (first | exact Upd.head | apply Upd.tail)) ?_)
    refine Tr.pTail rfl ?_
    refine TrP.done ?_
    refine Tr.thenN ?_
    refine Tr.ret ?_
    refine Tr.out1 rfl (Res.cellN (cs := (nat3 (M % 1361129467683753853853498429727072845824 + 5 * (M / 1361129467683753853853498429727072845824))).map U64) rfl Tryd.isAgg82 Tryd.sizeOf82 (by repeat (first | exact List.Mem.head _ | apply List.Mem.tail))) fun w hw => ?_
    exact ⟨rfl, hw.sub (List.nil_sublist _)⟩

set_option maxRecDepth 20000 in
theorem least_any (x : Nat) (w : World) (hx : x < 5444517870735015415413993718908291383296) :
    Calls Tryd.prog 53 [.agg ((nat3 x).map U64).toArray].toArray w fun e w' => e = .returned (.agg ((nat3 (x % 1361129467683753853853498429727072845819)).map U64).toArray) ∧ Hp w [] [] w' := by
  refine Tr.enter Tryd.func53 rfl Tryd.ntmps53 rfl (Hp.refl w) ?_
  refine Tr.seq ?_
  refine Tr.region ?_
  refine Tr.op (W.box (cs := (nat3 x).map U64) rfl rfl rfl fun g1 => ?_)
  refine Tr.op (W.alloc (cs := [0#64, 0#64, 0#64].map U64) Tryd.zeroValue82 rfl rfl fun g2 => ?_)
  refine Tr.lNil ?_
  refine Tr.thenN ?_
  refine Tr.block ?_
  refine Tr.loop (ι := Nat) (fun v => v ≤ x ∧ v % 1361129467683753853853498429727072845819 = x % 1361129467683753853853498429727072845819) (fun v => [(1, .pointer (some ⟨g1, 0, none⟩)), (2, .pointer (some ⟨g2, 0, none⟩))]) (fun v => [⟨g2, 82, [0#64, 0#64, 0#64].map U64⟩, ⟨g1, 82, (nat3 v).map U64⟩]) (fun v => v) x ⟨Nat.le_refl _, rfl⟩ (lk_cons rfl (lk_cons rfl (lk_nil _))) (List.Sublist.refl _) fun v hI => ?_
  obtain ⟨hvx, hvm⟩ := hI
  refine Tr.block ?_
  refine Tr.seq ?_
  refine Tr.region ?_
  refine Tr.val (V.loadN (cs := (nat3 v).map U64) Tryd.isAgg82 Tryd.sizeOf82 rfl (V.cellsB (by repeat (first | exact List.Mem.head _ | apply List.Mem.tail)))) rfl ?_
  refine Tr.val ((V.buildA (vs := [(0, U64 5#64)]) (cs := ((nat3 5).map U64).toArray) Tryd.runUnderlying82 Tryd.sizeOf53 Tryd.zeroValue82 (fun a he => by simp [Act.eval]) rfl)) rfl ?_
  refine Tr.op (W.call1 (args2 rfl rfl) Tryd.call51 rfl (fun w _ => by have h := plus_nat v 5 w (by omega) (by omega); rw [Nat.mod_eq_of_lt (by omega)] at h; exact h) ?_)
  refine Tr.op (W.alloc (cs := [0#64, 0#64, 0#64].map U64) Tryd.zeroValue82 rfl rfl fun g3 => ?_)
  refine Tr.op (W.storeAll (vs := (nat3 (v + 5)).map U64) (cs := [0#64, 0#64, 0#64].map U64) Tryd.sizeOf82 rfl rfl rfl rfl (one64 _) (by repeat (first | exact Upd.head | apply Upd.tail)) ?_)
  refine Tr.lNil ?_
  refine Tr.thenN ?_
  refine Tr.seq ?_
  refine Tr.seq ?_
  refine Tr.region ?_
  refine Tr.val (V.idxA (j := 2) (o' := 2) Tryd.runUnderlying82 Tryd.sizeOf53 rfl rfl rfl (by omega) rfl) rfl ?_
  refine Tr.val (V.load1 Tryd.isAgg53 rfl (V.cellB (by repeat (first | exact List.Mem.head _ | apply List.Mem.tail)) (getU (nat3 (v + 5)) 2 (show 2 < 3 by decide)))) rfl ?_
  refine Tr.val (V.shr64 (s := 2) rfl rfl) rfl ?_
  refine Tr.val (V.eql64 (Y := 0#64) rfl rfl (least_test v (by omega))) rfl ?_
  refine Tr.lNil ?_
  refine Tr.thenN ?_
  refine Tr.cond rfl (fun hT0 => ?_) (fun hF0 => ?_)
  · simp only [decide_eq_true_eq] at hT0
    refine Tr.seq ?_
    refine Tr.region ?_
    refine Tr.val (V.loadN (cs := (nat3 v).map U64) Tryd.isAgg82 Tryd.sizeOf82 rfl (V.cellsB (by repeat (first | exact List.Mem.head _ | apply List.Mem.tail)))) rfl ?_
    refine Tr.op (W.storeAll (vs := (nat3 v).map U64) (cs := [0#64, 0#64, 0#64].map U64) Tryd.sizeOf82 rfl rfl rfl rfl (one64 _) (by repeat (first | exact Upd.head | apply Upd.tail)) ?_)
    refine Tr.lNil ?_
    refine Tr.thenN ?_
    refine Tr.ret ?_
    refine Tr.thenR ?_
    refine Tr.inR ?_
    refine Tr.thenR ?_
    refine Tr.inR ?_
    refine Tr.out1 rfl (Res.cellN (cs := (nat3 v).map U64) rfl Tryd.isAgg82 Tryd.sizeOf82 (by repeat (first | exact List.Mem.head _ | apply List.Mem.tail))) fun w hw => ?_
    rw [Nat.mod_eq_of_lt hT0] at hvm
    rw [← hvm]
    exact ⟨rfl, hw.sub (List.nil_sublist _)⟩
  · simp only [decide_eq_false_iff_not] at hF0
    refine Tr.skip ?_
    refine Tr.thenN ?_
    refine Tr.seq ?_
    refine Tr.region ?_
    refine Tr.val (V.idxA (j := 2) (o' := 2) Tryd.runUnderlying82 Tryd.sizeOf53 rfl rfl rfl (by omega) rfl) rfl ?_
    refine Tr.val (V.load1 Tryd.isAgg53 rfl (V.cellB (by repeat (first | exact List.Mem.head _ | apply List.Mem.tail)) (getU (nat3 (v + 5)) 2 (show 2 < 3 by decide)))) rfl ?_
    refine Tr.val (V.sub64 (Y := 4#64) rfl rfl) rfl ?_
    refine Tr.val (V.idxA (j := 2) (o' := 2) Tryd.runUnderlying82 Tryd.sizeOf53 rfl rfl rfl (by omega) rfl) rfl ?_
    refine Tr.op (W.store1E (cs := (nat3 (v + 5)).map U64) (v := U64 ((nat3 (v + 5)).getD 2 0#64 - 4#64)) (cs' := (nat3 (v - 1361129467683753853853498429727072845819)).map U64) Tryd.sizeOf53 rfl rfl rfl rfl (by rw [← least_step v (by omega) hF0, List.map_set]) (by repeat (first | exact Upd.head | apply Upd.tail)) (show 2 < 3 by decide) ?_)
    refine Tr.lNil ?_
    refine Tr.thenN ?_
    refine Tr.region ?_
    refine Tr.val (V.loadN (cs := (nat3 (v - 1361129467683753853853498429727072845819)).map U64) Tryd.isAgg82 Tryd.sizeOf82 rfl (V.cellsB (by repeat (first | exact List.Mem.head _ | apply List.Mem.tail)))) rfl ?_
    refine Tr.op (W.storeAll (vs := (nat3 (v - 1361129467683753853853498429727072845819)).map U64) (cs := (nat3 v).map U64) Tryd.sizeOf82 rfl rfl rfl rfl (one64 _) (by repeat (first | exact Upd.head | apply Upd.tail)) ?_)
    refine Tr.lNil ?_
    refine Tr.inN ?_
    exact Tr.again (v - 1361129467683753853853498429727072845819) ⟨by omega, by omega⟩ (by omega) (lk_cons rfl (lk_cons rfl (lk_nil _))) (List.sublist_cons_self _ _)

end Go.Proofs.YtnhfmmohdiccgaaDoor
