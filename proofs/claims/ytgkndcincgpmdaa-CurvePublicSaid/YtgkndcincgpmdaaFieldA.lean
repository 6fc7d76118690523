/-
  Contracts of package field: double, carried. (Printed by a program of this session over its walk printer.)
-/
import Derived.Test.YtgkndcincgpmdaaPlainDouble
import Derived.Test.YtgkndcincgpmdaaFacts
import Derived.Test.YtgkndcincgpmdaaFrame
import Derived.Test.YtgkndcincgpmdaaSymL
namespace Go.Proofs.Ytgkndcincgpmdaa
open Go.Sym Plain
set_option linter.unusedVariables false
set_option maxRecDepth 20000

theorem add64_call (args : Array Value) (w : World) : (callFunc 52 args).run Try.prog w = ((add64Entry args).run Try.prog w).andThen fun v w' => .ok (.value v) w' :=
  run_callFunc_extern Try.func52 (by decide +kernel) rfl rfl rfl args w
theorem mul64_any (X Y : BitVec 64) (w : World) : Calls Try.prog 51 [U64 X, U64 Y].toArray w fun r w' => r = .returned (.tuple #[U64 (mulHi X Y), U64 (X * Y)]) ∧ Hp w [] [] w' := by
  refine Tr.enter Try.func51 rfl Try.ntmps51 rfl (Hp.refl w) ?_
  refine Tr.seq ?_
  refine Tr.region ?_
  refine Tr.val (V.assign (v := U64 0#64) rfl) rfl ?_
  refine Tr.val (V.assign (v := U64 0#64) rfl) rfl ?_
  refine Tr.lNil ?_
  refine Tr.thenN ?_
  refine Tr.seq ?_
  refine Tr.region ?_
  refine Tr.val (V.move rfl) rfl ?_
  refine Tr.val (V.and64 (Y := 4294967295#64) rfl rfl) rfl ?_
  refine Tr.val (V.assign rfl) rfl ?_
  refine Tr.lNil ?_
  refine Tr.thenN ?_
  refine Tr.seq ?_
  refine Tr.region ?_
  refine Tr.val (V.move rfl) rfl ?_
  refine Tr.val (V.shr64 (s := 32) rfl rfl) rfl ?_
  refine Tr.val (V.assign rfl) rfl ?_
  refine Tr.lNil ?_
  refine Tr.thenN ?_
  refine Tr.seq ?_
  refine Tr.region ?_
  refine Tr.val (V.move rfl) rfl ?_
  refine Tr.val (V.and64 (Y := 4294967295#64) rfl rfl) rfl ?_
  refine Tr.val (V.assign rfl) rfl ?_
  refine Tr.lNil ?_
  refine Tr.thenN ?_
  refine Tr.seq ?_
  refine Tr.region ?_
  refine Tr.val (V.move rfl) rfl ?_
  refine Tr.val (V.shr64 (s := 32) rfl rfl) rfl ?_
  refine Tr.val (V.assign rfl) rfl ?_
  refine Tr.lNil ?_
  refine Tr.thenN ?_
  refine Tr.seq ?_
  refine Tr.region ?_
  refine Tr.val (V.move rfl) rfl ?_
  refine Tr.val (V.move rfl) rfl ?_
  refine Tr.val (V.mul64 rfl rfl) rfl ?_
  refine Tr.val (V.assign rfl) rfl ?_
  refine Tr.lNil ?_
  refine Tr.thenN ?_
  refine Tr.seq ?_
  refine Tr.region ?_
  refine Tr.val (V.move rfl) rfl ?_
  refine Tr.val (V.move rfl) rfl ?_
  refine Tr.val (V.mul64 rfl rfl) rfl ?_
  refine Tr.val (V.move rfl) rfl ?_
  refine Tr.val (V.shr64 (s := 32) rfl rfl) rfl ?_
  refine Tr.val (V.add64 rfl rfl) rfl ?_
  refine Tr.val (V.assign rfl) rfl ?_
  refine Tr.lNil ?_
  refine Tr.thenN ?_
  refine Tr.seq ?_
  refine Tr.region ?_
  refine Tr.val (V.move rfl) rfl ?_
  refine Tr.val (V.and64 (Y := 4294967295#64) rfl rfl) rfl ?_
  refine Tr.val (V.assign rfl) rfl ?_
  refine Tr.lNil ?_
  refine Tr.thenN ?_
  refine Tr.seq ?_
  refine Tr.region ?_
  refine Tr.val (V.move rfl) rfl ?_
  refine Tr.val (V.shr64 (s := 32) rfl rfl) rfl ?_
  refine Tr.val (V.assign rfl) rfl ?_
  refine Tr.lNil ?_
  refine Tr.thenN ?_
  refine Tr.seq ?_
  refine Tr.region ?_
  refine Tr.val (V.move rfl) rfl ?_
  refine Tr.val (V.move rfl) rfl ?_
  refine Tr.val (V.move rfl) rfl ?_
  refine Tr.val (V.mul64 rfl rfl) rfl ?_
  refine Tr.val (V.add64 rfl rfl) rfl ?_
  refine Tr.val (V.assign rfl) rfl ?_
  refine Tr.lNil ?_
  refine Tr.thenN ?_
  refine Tr.seq ?_
  refine Tr.region ?_
  refine Tr.val (V.move rfl) rfl ?_
  refine Tr.val (V.move rfl) rfl ?_
  refine Tr.val (V.mul64 rfl rfl) rfl ?_
  refine Tr.val (V.move rfl) rfl ?_
  refine Tr.val (V.add64 rfl rfl) rfl ?_
  refine Tr.val (V.move rfl) rfl ?_
  refine Tr.val (V.shr64 (s := 32) rfl rfl) rfl ?_
  refine Tr.val (V.add64 rfl rfl) rfl ?_
  refine Tr.val (V.assign rfl) rfl ?_
  refine Tr.lNil ?_
  refine Tr.thenN ?_
  refine Tr.seq ?_
  refine Tr.region ?_
  refine Tr.val (V.move rfl) rfl ?_
  refine Tr.val (V.move rfl) rfl ?_
  refine Tr.val (V.mul64 rfl rfl) rfl ?_
  refine Tr.val (V.assign rfl) rfl ?_
  refine Tr.lNil ?_
  refine Tr.thenN ?_
  refine Tr.ret ?_
  refine Tr.out2 rfl (Res.tmp rfl) (Res.tmp rfl) fun w hw => ?_
  exact ⟨rfl, hw⟩

theorem and_any (d : BitVec 128) (x y : BitVec 64) (w : World) : Calls Try.prog 36 [.agg (dblV d).toArray, U64 x, U64 y].toArray w fun r w' => r = .returned (.agg (dblV (d + prodD x y)).toArray) ∧ Hp w [] [] w' := by
  obtain ⟨c1, hc1⟩ : ∃ c, c = cy64 (loD d) (x * y) 0#64 := ⟨_, rfl⟩
  have hc : c1.toNat ≤ 1 := by rw [hc1]; exact cy_le _ _ _ (by decide)
  have hD : (dblV (d + prodD x y)) = [U64 (hiD d + mulHi x y + c1), U64 (loD d + x * y + 0#64)] := by rw [hc1, ← hiD_and, ← loD_and]; rfl
  refine Tr.enter Try.func36 rfl Try.ntmps36 rfl (Hp.refl w) ?_
  refine Tr.seq ?_
  refine Tr.region ?_
  refine Tr.op (W.box (cs := dblV d) rfl rfl rfl fun g3 => ?_)
  refine Tr.op (W.alloc (cs := [U64 0#64, U64 0#64]) Try.zeroValue71 rfl rfl fun g6 => ?_)
  refine Tr.lNil ?_
  refine Tr.thenN ?_
  refine Tr.seq ?_
  refine Tr.region ?_
  refine Tr.val (V.move rfl) rfl ?_
  refine Tr.val (V.move rfl) rfl ?_
  refine Tr.op (W.call1 (args2 rfl rfl) Try.call51 rfl (fun w1 _ => mul64_any _ _ w1) ?_)
  refine Tr.val (V.move rfl) rfl ?_
  refine Tr.val (V.extract rfl rfl) rfl ?_
  refine Tr.val (V.extract rfl rfl) rfl ?_
  refine Tr.val (V.assign rfl) rfl ?_
  refine Tr.val (V.assign rfl) rfl ?_
  refine Tr.lNil ?_
  refine Tr.thenN ?_
  refine Tr.seq ?_
  refine Tr.region ?_
  refine Tr.val (V.fieldS (o' := 1) Try.runUnderlying71 rfl rfl Try.sizeOf38 (by omega) rfl) rfl ?_
  refine Tr.val (V.load1 Try.isAgg38 rfl (V.cellB (by repeat (first | exact List.Mem.head _ | apply List.Mem.tail)) (show (dblV d)[1]? = some (U64 (loD d)) from rfl))) rfl ?_
  refine Tr.val (V.move rfl) rfl ?_
  refine Tr.val (V.callE (v := .tuple #[U64 (loD d + x * y + 0#64), U64 c1]) (vs := [U64 (loD d), U64 (x * y), U64 0#64]) (args3 rfl rfl rfl) (by rw [hc1]; exact add64_run add64_call _ _ _ (by decide))) rfl ?_
  refine Tr.val (V.move rfl) rfl ?_
  refine Tr.val (V.extract rfl rfl) rfl ?_
  refine Tr.val (V.extract rfl rfl) rfl ?_
  refine Tr.val (V.assign rfl) rfl ?_
  refine Tr.val (V.assign rfl) rfl ?_
  refine Tr.lNil ?_
  refine Tr.thenN ?_
  refine Tr.seq ?_
  refine Tr.region ?_
  refine Tr.val (V.fieldS (o' := 0) Try.runUnderlying71 rfl rfl Try.sizeOf38 (by omega) rfl) rfl ?_
  refine Tr.val (V.load1 Try.isAgg38 rfl (V.cellB (by repeat (first | exact List.Mem.head _ | apply List.Mem.tail)) (show (dblV d)[0]? = some (U64 (hiD d)) from rfl))) rfl ?_
  refine Tr.val (V.move rfl) rfl ?_
  refine Tr.val (V.move rfl) rfl ?_
  refine Tr.val (V.callE (vs := [U64 (hiD d), U64 (mulHi x y), U64 c1]) (args3 rfl rfl rfl) (add64_run add64_call _ _ _ hc)) rfl ?_
  refine Tr.val (V.move rfl) rfl ?_
  refine Tr.val (V.extract rfl rfl) rfl ?_
  refine Tr.val (V.extract rfl rfl) rfl ?_
  refine Tr.val (V.assign rfl) rfl ?_
  refine Tr.lNil ?_
  refine Tr.thenN ?_
  refine Tr.seq ?_
  refine Tr.region ?_
  refine Tr.val (V.move rfl) rfl ?_
  refine Tr.val (V.move rfl) rfl ?_
  refine Tr.val ((V.buildS (vs := [(0, U64 (hiD d + mulHi x y + c1)), (1, U64 (loD d + x * y + 0#64))]) (pl := #[(0, 1), (1, 1)]) (cs := (dblV (d + prodD x y)).toArray) Try.runUnderlying71 Try.zeroValue71 (fun w => by simp [Try.sizeOf38]) (fun a he => by simp [he.eval (x := .tmp 31) (v := U64 (hiD d + mulHi x y + c1)) rfl, he.eval (x := .tmp 32) (v := U64 (loD d + x * y + 0#64)) rfl]) (by rw [hD]; rfl))) rfl ?_
  refine Tr.op (W.storeAll (vs := (dblV (d + prodD x y))) (cs := [U64 0#64, U64 0#64]) Try.sizeOf71 rfl rfl rfl rfl (one_dbl _) (by repeat (first | exact Upd.head | apply Upd.tail)) ?_)
  refine Tr.lNil ?_
  refine Tr.thenN ?_
  refine Tr.ret ?_
  refine Tr.out1 rfl (Res.cellN (cs := (dblV (d + prodD x y))) rfl Try.isAgg71 Try.sizeOf71 (by repeat (first | exact List.Mem.head _ | apply List.Mem.tail))) fun w hw => ?_
  exact ⟨rfl, hw.sub (List.nil_sublist _)⟩

theorem more_any (d : BitVec 128) (x : BitVec 64) (w : World) : Calls Try.prog 37 [.agg (dblV d).toArray, U64 x].toArray w fun r w' => r = .returned (.agg (dblV (d + prodD x 1#64)).toArray) ∧ Hp w [] [] w' := by
  refine Tr.enter Try.func37 rfl Try.ntmps37 rfl (Hp.refl w) ?_
  refine Tr.seq ?_
  refine Tr.region ?_
  refine Tr.op (W.box (cs := dblV d) rfl rfl rfl fun g2 => ?_)
  refine Tr.op (W.alloc (cs := [U64 0#64, U64 0#64]) Try.zeroValue71 rfl rfl fun g4 => ?_)
  refine Tr.lNil ?_
  refine Tr.thenN ?_
  refine Tr.seq ?_
  refine Tr.region ?_
  refine Tr.val (V.loadN (cs := dblV d) Try.isAgg71 Try.sizeOf71 rfl (V.cellsB (by repeat (first | exact List.Mem.head _ | apply List.Mem.tail)))) rfl ?_
  refine Tr.val (V.move rfl) rfl ?_
  refine Tr.op (W.call1 (vs := [_, _, U64 1#64]) (args3 rfl rfl rfl) Try.call36 rfl (fun w1 _ => and_any d x 1#64 w1) ?_)
  refine Tr.op (W.storeAll (vs := (dblV (d + prodD x 1#64))) (cs := [U64 0#64, U64 0#64]) Try.sizeOf71 rfl rfl rfl rfl (one_dbl _) (by repeat (first | exact Upd.head | apply Upd.tail)) ?_)
  refine Tr.lNil ?_
  refine Tr.thenN ?_
  refine Tr.ret ?_
  refine Tr.out1 rfl (Res.cellN (cs := dblV (d + prodD x 1#64)) rfl Try.isAgg71 Try.sizeOf71 (by repeat (first | exact List.Mem.head _ | apply List.Mem.tail))) fun w hw => ?_
  exact ⟨rfl, hw.sub (List.nil_sublist _)⟩

theorem above_any (d : BitVec 128) (w : World) : Calls Try.prog 38 [.agg (dblV d).toArray].toArray w fun r w' => r = .returned (U64 (topD d)) ∧ Hp w [] [] w' := by
  refine Tr.enter Try.func38 rfl Try.ntmps38 rfl (Hp.refl w) ?_
  refine Tr.seq ?_
  refine Tr.region ?_
  refine Tr.op (W.box (cs := dblV d) rfl rfl rfl fun g1 => ?_)
  refine Tr.val (V.assign (v := U64 0#64) rfl) rfl ?_
  refine Tr.lNil ?_
  refine Tr.thenN ?_
  refine Tr.seq ?_
  refine Tr.region ?_
  refine Tr.val (V.fieldS (o' := 0) Try.runUnderlying71 rfl rfl Try.sizeOf38 (by omega) rfl) rfl ?_
  refine Tr.val (V.load1 Try.isAgg38 rfl (V.cellB (by repeat (first | exact List.Mem.head _ | apply List.Mem.tail)) (show (dblV d)[0]? = some (U64 (hiD d)) from rfl))) rfl ?_
  refine Tr.val (V.shl64 (s := 13) rfl rfl) rfl ?_
  refine Tr.val (V.fieldS (o' := 1) Try.runUnderlying71 rfl rfl Try.sizeOf38 (by omega) rfl) rfl ?_
  refine Tr.val (V.load1 Try.isAgg38 rfl (V.cellB (by repeat (first | exact List.Mem.head _ | apply List.Mem.tail)) (show (dblV d)[1]? = some (U64 (loD d)) from rfl))) rfl ?_
  refine Tr.val (V.shr64 (s := 51) rfl rfl) rfl ?_
  refine Tr.val (V.or64 rfl rfl) rfl ?_
  refine Tr.val (V.assign rfl) rfl ?_
  refine Tr.lNil ?_
  refine Tr.thenN ?_
  refine Tr.ret ?_
  refine Tr.out1 rfl (Res.tmp rfl) fun w hw => ?_
  exact ⟨by rw [← top_or], hw.sub (List.nil_sublist _)⟩

theorem carried_any (l : List (BitVec 64)) (w : World) (hl : l.length = 5) : Calls Try.prog 39 [.agg (l.map U64).toArray].toArray w fun r w' => r = .returned (.agg ((carriedL l).map U64).toArray) ∧ Hp w [] [] w' := by
  have hcl : (carriedL l).length = 5 := by rw [carriedL_len, hl]
  have hpl : ∀ k, (passTo l k).1.length = 5 := fun k => by rw [passTo_len, hl]
  have hcl2 : ∀ k i, (carTo (passTo l k).1 (passTo l k).2 i).1.length = 5 := fun k i => by rw [carTo_len, passTo_len, hl]
  refine Tr.enter Try.func39 rfl Try.ntmps39 rfl (Hp.refl w) ?_
  refine Tr.seq ?_
  refine Tr.region ?_
  refine Tr.op (W.box (cs := l.map U64) rfl rfl rfl fun g1 => ?_)
  refine Tr.op (W.alloc (cs := [0#64, 0#64, 0#64, 0#64, 0#64].map U64) Try.zeroValue41 rfl rfl fun g2 => ?_)
  refine Tr.lNil ?_
  refine Tr.thenN ?_
  refine Tr.seq ?_
  refine Tr.region ?_
  refine Tr.val (V.assign (v := U64 0#64) rfl) rfl ?_
  refine Tr.lNil ?_
  refine Tr.thenN ?_
  refine Tr.seq ?_
  refine Tr.seq ?_
  refine Tr.region ?_
  refine Tr.val (V.move rfl) rfl ?_
  refine Tr.lNil ?_
  refine Tr.thenN ?_
  refine Tr.block ?_
  refine Tr.loop (ι := Nat) (fun k => k ≤ 2) (fun k => [(1, .pointer (some ⟨g1, 0, none⟩)), (2, .pointer (some ⟨g2, 0, none⟩)), (3, U64 (passTo l k).2), (5, NV k)]) (fun k => [⟨g2, 41, [0#64, 0#64, 0#64, 0#64, 0#64].map U64⟩, ⟨g1, 39, (passTo l k).1.map U64⟩]) (fun k => 2 - k) 0 (Nat.zero_le _) (lk_cons rfl (lk_cons rfl (lk_cons rfl (lk_cons rfl (lk_nil _))))) (List.Sublist.refl _) fun k hI => ?_
  refine Tr.seq ?_
  refine Tr.region ?_
  refine Tr.val (V.lss rfl rfl rfl) rfl ?_
  refine Tr.lNil ?_
  refine Tr.thenN ?_
  refine Tr.seq ?_
  refine Tr.cond rfl (fun hT0 => ?_) (fun hF0 => ?_)
  · simp only [decide_eq_true_eq] at hT0
    have hlk : k < 2 := by omega
    refine Tr.skip ?_
    refine Tr.thenN ?_
    refine Tr.seq ?_
    refine Tr.block ?_
    refine Tr.seq ?_
    refine Tr.seq ?_
    refine Tr.region ?_
    refine Tr.val (V.move rfl) rfl ?_
    refine Tr.lNil ?_
    refine Tr.thenN ?_
    refine Tr.block ?_
    refine Tr.loop (ι := Nat) (fun i => i ≤ 5) (fun i => [(1, .pointer (some ⟨g1, 0, none⟩)), (2, .pointer (some ⟨g2, 0, none⟩)), (5, NV k), (3, U64 (carTo (passTo l k).1 (passTo l k).2 i).2), (7, NV i)]) (fun i => [⟨g2, 41, [0#64, 0#64, 0#64, 0#64, 0#64].map U64⟩, ⟨g1, 39, (carTo (passTo l k).1 (passTo l k).2 i).1.map U64⟩]) (fun i => 5 - i) 0 (Nat.zero_le _) (lk_cons rfl (lk_cons rfl (lk_cons rfl (lk_cons rfl (lk_cons rfl (lk_nil _)))))) (List.Sublist.refl _) fun i hI => ?_
    refine Tr.seq ?_
    refine Tr.region ?_
    refine Tr.val (V.lss rfl rfl rfl) rfl ?_
    refine Tr.lNil ?_
    refine Tr.thenN ?_
    refine Tr.seq ?_
    refine Tr.cond rfl (fun hT1 => ?_) (fun hF1 => ?_)
    · simp only [decide_eq_true_eq] at hT1
      have hlt : i < 5 := by omega
      have hset : (((carTo (passTo l k).1 (passTo l k).2 i).1.set i ((carTo (passTo l k).1 (passTo l k).2 i).1.getD i 0#64 + (carTo (passTo l k).1 (passTo l k).2 i).2)).map U64)[i]? = some (U64 ((carTo (passTo l k).1 (passTo l k).2 i).1.getD i 0#64 + (carTo (passTo l k).1 (passTo l k).2 i).2)) := by rw [List.getElem?_map, List.getElem?_set_self (by rw [hcl2]; omega)]; rfl
      refine Tr.skip ?_
      refine Tr.thenN ?_
      refine Tr.seq ?_
      refine Tr.block ?_
      refine Tr.seq ?_
      refine Tr.region ?_
      refine Tr.val (V.move rfl) rfl ?_
      refine Tr.val (V.assign rfl) rfl ?_
      refine Tr.lNil ?_
      refine Tr.thenN ?_
      refine Tr.seq ?_
      refine Tr.region ?_
      refine Tr.val (V.move rfl) rfl ?_
      refine Tr.val (V.idxA (j := i) (o' := i) Try.runUnderlying39 Try.sizeOf38 rfl rfl (by omega) (by omega) (by omega)) rfl ?_
      refine Tr.val (V.load1 Try.isAgg38 rfl (V.cellB (by repeat (first | exact List.Mem.head _ | apply List.Mem.tail)) (getU _ i (by rw [hcl2]; omega)))) rfl ?_
      refine Tr.val (V.move rfl) rfl ?_
      refine Tr.val (V.add64 rfl rfl) rfl ?_
      refine Tr.val (V.idxA (j := i) (o' := i) Try.runUnderlying39 Try.sizeOf38 rfl rfl (by omega) (by omega) (by omega)) rfl ?_
      refine Tr.op (W.store1E (cs := (carTo (passTo l k).1 (passTo l k).2 i).1.map U64) (v := U64 (((carTo (passTo l k).1 (passTo l k).2 i).1.getD i 0#64 + (carTo (passTo l k).1 (passTo l k).2 i).2))) (cs' := ((carTo (passTo l k).1 (passTo l k).2 i).1.set i ((carTo (passTo l k).1 (passTo l k).2 i).1.getD i 0#64 + (carTo (passTo l k).1 (passTo l k).2 i).2)).map U64) Try.sizeOf38 rfl rfl rfl rfl (by rw [List.map_set]) (by repeat (first | exact Upd.head | apply Upd.tail)) (by rw [List.length_map, hcl2]; omega) ?_)
      refine Tr.lNil ?_
      refine Tr.thenN ?_
      refine Tr.regionD [0, 0, 2, 6, 14, 0, 32, 96, 224, 255, 767, 2047] [10] (.pure 0 (.pure 1 (.pure 2 (.soft 3 (.pure 4 (.pure 5 (.pure 6 (.soft 7 (.pure 8 (.pure 9 (.hard 10 (.pure 11 .done)))))))))))) mixed (by kernel_rfl) ?_
      refine TrP.pure rfl (fun _ => V.move rfl) rfl ?_
      refine TrP.pure rfl (fun _ => V.move rfl) rfl ?_
      refine TrP.pure rfl (fun _ => V.idxA (j := i) (o' := i) Try.runUnderlying39 Try.sizeOf38 rfl rfl (by omega) (by omega) (by omega)) rfl ?_
      refine TrP.soft rfl (V.load1 Try.isAgg38 rfl (V.cellB (by repeat (first | exact List.Mem.head _ | apply List.Mem.tail)) hset)) rfl ?_
      refine TrP.pure rfl (fun _ => V.and64 (Y := 2251799813685247#64) rfl rfl) rfl ?_
      refine TrP.pure rfl (fun _ => V.move rfl) rfl ?_
      refine TrP.pure rfl (fun _ => V.idxA (j := i) (o' := i) Try.runUnderlying39 Try.sizeOf38 rfl rfl (by omega) (by omega) (by omega)) rfl ?_
      refine TrP.soft rfl (V.load1 Try.isAgg38 rfl (V.cellB (by repeat (first | exact List.Mem.head _ | apply List.Mem.tail)) hset)) rfl ?_
      refine TrP.pure rfl (fun _ => V.shr64 (s := 51) rfl rfl) rfl ?_
      refine TrP.pure rfl (fun _ => V.idxA (j := i) (o' := i) Try.runUnderlying39 Try.sizeOf38 rfl rfl (by omega) (by omega) (by omega)) rfl ?_
      refine TrP.hard rfl (W.store1E (cs := ((carTo (passTo l k).1 (passTo l k).2 i).1.set i ((carTo (passTo l k).1 (passTo l k).2 i).1.getD i 0#64 + (carTo (passTo l k).1 (passTo l k).2 i).2)).map U64) (v := U64 (((carTo (passTo l k).1 (passTo l k).2 i).1.getD i 0#64 + (carTo (passTo l k).1 (passTo l k).2 i).2) &&& 2251799813685247#64)) (cs' := (carTo (passTo l k).1 (passTo l k).2 (i + 1)).1.map U64) Try.sizeOf38 rfl rfl rfl rfl (by rw [carTo, ← List.map_set, List.set_set]) (by repeat (first | exact Upd.head | apply Upd.tail)) (by rw [List.length_map, List.length_set, hcl2]; omega) ?_)
      refine Tr.pTail rfl ?_
      refine TrP.pure rfl (fun _ => V.assign rfl) rfl ?_
      refine TrP.done ?_
      refine Tr.inN ?_
      refine Tr.thenN ?_
      refine Tr.region ?_
      refine Tr.val (V.add rfl rfl (by omega)) rfl ?_
      refine Tr.val (V.move rfl) rfl ?_
      refine Tr.lNil ?_
      exact Tr.again (i + 1) (by omega) (by omega) (lk_cons rfl (lk_cons rfl (lk_cons rfl (lk_cons rfl (lk_cons rfl (lk_nil _)))))) (List.Sublist.refl _)
    · simp only [decide_eq_false_iff_not] at hF1
      obtain rfl : i = 5 := by omega
      refine Tr.exit ?_
      refine Tr.thenX ?_
      refine Tr.thenX ?_
      refine Tr.inHit ?_
      refine Tr.thenN ?_
      refine Tr.region ?_
      refine Tr.val (V.move rfl) rfl ?_
      refine Tr.val (V.mul64 (Y := 19#64) rfl rfl) rfl ?_
      refine Tr.val (V.assign rfl) rfl ?_
      refine Tr.lNil ?_
      refine Tr.inN ?_
      refine Tr.thenN ?_
      refine Tr.region ?_
      refine Tr.val (V.add rfl rfl (by omega)) rfl ?_
      refine Tr.val (V.move rfl) rfl ?_
      refine Tr.lNil ?_
      exact Tr.again (k + 1) (by omega) (by omega) (lk_cons rfl (lk_cons rfl (lk_cons rfl (lk_cons rfl (lk_nil _))))) (List.Sublist.refl _)
  · simp only [decide_eq_false_iff_not] at hF0
    obtain rfl : k = 2 := by omega
    refine Tr.exit ?_
    refine Tr.thenX ?_
    refine Tr.thenX ?_
    refine Tr.inHit ?_
    refine Tr.thenN ?_
    refine Tr.seq ?_
    refine Tr.region ?_
    refine Tr.val (V.idxA (j := 0) (o' := 0) Try.runUnderlying39 Try.sizeOf38 rfl rfl rfl (by omega) rfl) rfl ?_
    refine Tr.val (V.load1 Try.isAgg38 rfl (V.cellB (by repeat (first | exact List.Mem.head _ | apply List.Mem.tail)) (getU _ 0 (by rw [hpl]; omega)))) rfl ?_
    refine Tr.val (V.move rfl) rfl ?_
    refine Tr.val (V.add64 rfl rfl) rfl ?_
    refine Tr.val (V.idxA (j := 0) (o' := 0) Try.runUnderlying39 Try.sizeOf38 rfl rfl rfl (by omega) rfl) rfl ?_
    refine Tr.op (W.store1E (cs := (passTo l 2).1.map U64) (v := U64 ((passTo l 2).1.getD 0 0#64 + (passTo l 2).2)) (cs' := (carriedL l).map U64) Try.sizeOf38 rfl rfl rfl rfl (by rw [carriedL, List.map_set]) (by repeat (first | exact Upd.head | apply Upd.tail)) (by rw [List.length_map, hpl]; omega) ?_)
    refine Tr.lNil ?_
    refine Tr.thenN ?_
    refine Tr.seq ?_
    refine Tr.region ?_
    refine Tr.val (V.loadN (cs := (carriedL l).map U64) Try.isAgg39 (by rw [List.length_map, hcl]; exact Try.sizeOf39) rfl (V.cellsB (by repeat (first | exact List.Mem.head _ | apply List.Mem.tail)))) rfl ?_
    refine Tr.val ((V.buildS (vs := [(0, .agg ((carriedL l).map U64).toArray)]) (pl := #[(0, 5)]) (cs := ((carriedL l).map U64 ++ ([0#64, 0#64, 0#64, 0#64, 0#64].map U64).drop 5).toArray) Try.runUnderlying41 Try.zeroValue41 (fun w => by simp [Try.sizeOf39]) (fun a he => by simp [he.eval (x := .tmp 35) (v := .agg ((carriedL l).map U64).toArray) rfl]) (fill_one rfl (by rw [List.length_map, hcl]) (by decide)))) rfl ?_
    rw [show ([0#64, 0#64, 0#64, 0#64, 0#64].map U64).drop 5 = ([] : List Value) from rfl, List.append_nil]
    refine Tr.op (W.storeAll (vs := (carriedL l).map U64) (cs := [0#64, 0#64, 0#64, 0#64, 0#64].map U64) Try.sizeOf41 rfl rfl (by rw [List.length_map, hcl]) rfl (one64 _) (by repeat (first | exact Upd.head | apply Upd.tail)) ?_)
    refine Tr.lNil ?_
    refine Tr.thenN ?_
    refine Tr.ret ?_
    refine Tr.out1 rfl (Res.cellN (cs := (carriedL l).map U64) rfl Try.isAgg41 (by rw [List.length_map, hcl]; exact Try.sizeOf41) (by repeat (first | exact List.Mem.head _ | apply List.Mem.tail))) fun w hw => ?_
    exact ⟨rfl, hw.sub (List.nil_sublist _)⟩

end Go.Proofs.Ytgkndcincgpmdaa
