/-
  hatchwaylaw01.WordsSizes returns true, whatever its arguments. (Printed by law1.py over the walk printer of this session.)
-/
import Derived.Test.YtnhfmmohdiccgaaRows
import Derived.Test.YtnhfmmohdiccgaaFrame
import Derived.Test.YtnhfmmohdiccgaaShown1
import Derived.Test.YtnhfmmohdiccgaaPlainLaw1
import Derived.Test.YtnhfmmohdiccgaaAny1
namespace Go.Proofs.Ytnhfmmohdiccgaa
open Go.Sym Plain
set_option linter.unusedVariables false

theorem wordsSizes_a (k : Nat) (h1 : 1 ≤ k) (h8 : k < 8) (nn : BitVec 64) (big : Bool) (w : World) :
    Calls Try.prog 7 [.int .i64 (k : Int), U64 nn, .bool big].toArray w fun r w' => r = .returned (.bool true) ∧ Hp w [] [] w' := by
  obtain ⟨e, hee⟩ : ∃ e, e = k := ⟨_, rfl⟩
  have he : effI (k : Int) = e := by rw [hee]; exact effI_nat k (by omega)
  have hcut : (if (0 : Int) < (if (8 : Int) < (k : Int) then 8 else (k : Int)) then (if (8 : Int) < (k : Int) then 8 else (k : Int)) else 0) = (e : Int) := by
    rw [if_neg (show ¬ (8 : Int) < (k : Int) by omega), if_pos (by omega)]
    omega
  obtain ⟨ws, hws⟩ : ∃ ws, ws = putW big nn e := ⟨_, rfl⟩
  have hwl : ws.length = e := by rw [hws, putW_len]
  have hok : decide (getOK (1 + e) 1 (k : Int)) = true := by
    exact decide_eq_true (by unfold getOK; omega)
  have hget : getA big ([7#8] ++ ws) 1 (k : Int) = nn &&& (1#64 <<< (8 * e) - 1#64) := by
    rw [hws, hee]
    exact (getA_putW big nn [7#8] k h1 (by omega)).trans (getL_putL k nn (by omega))
  refine Tr.enter Try.func7 rfl Try.ntmps7 rfl (Hp.refl w) ?_
  refine Tr.seq ?_
  refine Tr.region ?_
  refine Tr.val (V.assign rfl) rfl ?_
  refine Tr.lNil ?_
  refine Tr.thenN ?_
  refine Tr.seq ?_
  refine Tr.region ?_
  refine Tr.op (W.call1 (args0) Try.call18 rfl (fun w _ => shown_true w) ?_)
  refine Tr.val (V.assign rfl) rfl ?_
  refine Tr.lNil ?_
  refine Tr.thenN ?_
  refine Tr.seq ?_
  refine Tr.region ?_
  refine Tr.op (W.build (vs := [U8 7#8]) elem22 (W.parts1 rfl) rfl (by simp [Value.cells]) (by omega) rfl fun g14 => ?_)
  refine Tr.val (V.move rfl) rfl ?_
  refine Tr.val (V.move rfl) rfl ?_
  refine Tr.val (V.move rfl) rfl ?_
  refine Tr.op (W.call (val := fun x : Nat × Nat × List Value => .slice (some ⟨x.1, 0, none⟩) (1 + e) x.2.1) (N := fun x => [⟨x.1, 5, ([7#8] ++ ws).map U8 ++ x.2.2⟩]) (Px := fun x => True)  (args4 rfl rfl rfl rfl) Try.call19 rfl (fun w1 hw => by have h := put_any (some ⟨g14, 0, none⟩) 1 1 [7#8] (k : Int) nn big w1 ((RdP.all (List.Mem.head _)).now hw) rfl (fun h => by cases h) (by omega) (.inl rfl); simp only [PutOut, he, ← hws] at h; exact h.mono fun _ _ ⟨x, h⟩ => ⟨x, h.1, h.2.1, trivial⟩) fun y _ => ?_)
  refine Tr.val (V.assign rfl) rfl ?_
  refine Tr.lNil ?_
  refine Tr.thenN ?_
  refine Tr.seq ?_
  refine Tr.region ?_
  refine Tr.val (V.move rfl) rfl ?_
  refine Tr.val (V.move rfl) rfl ?_
  refine Tr.val (V.move rfl) rfl ?_
  refine Tr.op (W.call1 (args4 rfl rfl rfl rfl) Try.call20 rfl (fun w1 hw => get_any (some ⟨y.1, 0, none⟩) (1 + e) y.2.1 ([7#8] ++ ws) 1 (k : Int) big w1 ((RdP.headL (List.Mem.head _)).now hw) (by rw [List.length_append, hwl]; rfl) (by omega) (by omega) (by omega)) ?_)
  refine Tr.val (V.move rfl) rfl ?_
  refine Tr.val (V.extract rfl rfl) rfl ?_
  refine Tr.val (V.extract rfl rfl) rfl ?_
  refine Tr.val (V.assign rfl) rfl ?_
  refine Tr.val (V.assign rfl) rfl ?_
  refine Tr.lNil ?_
  refine Tr.thenN ?_
  refine Tr.seq ?_
  refine Tr.region ?_
  refine Tr.val (V.move rfl) rfl ?_
  refine Tr.val (V.min (z := if (8 : Int) < (k : Int) then 8 else (k : Int)) rfl rfl rfl) rfl ?_
  refine Tr.val (V.max rfl rfl hcut) rfl ?_
  refine Tr.val (V.assign rfl) rfl ?_
  refine Tr.lNil ?_
  refine Tr.thenN ?_
  refine Tr.seq ?_
  refine Tr.region ?_
  refine Tr.val (V.move rfl) rfl ?_
  refine Tr.val (V.geq (b := true) rfl rfl (decide_eq_true (by omega))) rfl ?_
  refine Tr.val (V.move rfl) rfl ?_
  refine Tr.valG rfl (V.move rfl) rfl ?_
  refine Tr.valG rfl (V.leq (b := true) rfl rfl (decide_eq_true (by omega))) rfl ?_
  refine Tr.val (V.pick rfl rfl) rfl ?_
  refine Tr.val (V.assign rfl) rfl ?_
  refine Tr.lNil ?_
  refine Tr.thenN ?_
  refine Tr.seq ?_
  refine Tr.seq ?_
  refine Tr.region ?_
  refine Tr.val (V.move rfl) rfl ?_
  refine Tr.val (V.lss (b := true) rfl rfl (decide_eq_true (by omega))) rfl ?_
  refine Tr.lNil ?_
  refine Tr.thenN ?_
  refine Tr.condT rfl ?_
  refine Tr.region ?_
  refine Tr.val (V.move rfl) rfl ?_
  refine Tr.val (V.move rfl) rfl ?_
  refine Tr.val (V.mulN (a := 8) rfl rfl (by omega)) rfl ?_
  refine Tr.val (V.convN_64 Try.runUnderlying3 Try.runUnderlying32 rfl (by omega) (by omega)) rfl ?_
  refine Tr.val (V.shl64 (X := 1#64) (s := 8 * e) rfl rfl) rfl ?_
  refine Tr.val (V.sub64 (Y := 1#64) rfl rfl) rfl ?_
  refine Tr.val (V.and64 rfl rfl) rfl ?_
  refine Tr.val (V.assign rfl) rfl ?_
  refine Tr.lNil ?_
  refine Tr.thenN ?_
  refine Tr.seq ?_
  refine Tr.region ?_
  refine Tr.val (V.move rfl) rfl ?_
  refine Tr.val (V.move rfl) rfl ?_
  refine Tr.valG rfl (V.move rfl) rfl ?_
  refine Tr.valG rfl (V.len Try.runUnderlying22 rfl) rfl ?_
  refine Tr.valG rfl (V.move rfl) rfl ?_
  refine Tr.valG rfl (V.add rfl rfl (by omega)) rfl ?_
  refine Tr.valG rfl (V.eql (b := true) rfl rfl (decide_eq_true (by omega))) rfl ?_
  refine Tr.val (V.pick rfl rfl) rfl ?_
  refine Tr.val (V.move rfl) rfl ?_
  refine Tr.valG rfl (V.move rfl) rfl ?_
  refine Tr.valG rfl (V.idxO (j := 0) (o' := 0) Try.runUnderlying22 Try.sizeOf5 rfl rfl rfl (by omega) rfl) rfl ?_
  refine Tr.valG rfl (V.load1 Try.isAgg5 rfl (V.cellB (List.Mem.head _) rfl)) rfl ?_
  refine Tr.valG rfl (V.eql8 (Y := 7#8) (b := true) rfl rfl (by decide)) rfl ?_
  refine Tr.val (V.pick rfl rfl) rfl ?_
  refine Tr.val (V.move rfl) rfl ?_
  refine Tr.valG rfl (V.move rfl) rfl ?_
  refine Tr.valG rfl (V.move rfl) rfl ?_
  refine Tr.valG rfl (V.eqlBb (b := true) Try.runUnderlying4 rfl rfl (by rw [hok]; rfl)) rfl ?_
  refine Tr.val (V.pick rfl rfl) rfl ?_
  refine Tr.val (V.move rfl) rfl ?_
  refine Tr.valG rfl (V.move rfl) rfl ?_
  refine Tr.valG rfl (V.not rfl) rfl ?_
  refine Tr.valG rfl (V.move rfl) rfl ?_
  refine Tr.valG rfl (V.move rfl) rfl ?_
  refine Tr.valG rfl (V.move rfl) rfl ?_
  refine Tr.valG rfl (V.eql64 (b := true) rfl rfl (decide_eq_true hget)) rfl ?_
  refine Tr.valG rfl (V.pick rfl rfl) rfl ?_
  refine Tr.val (V.pick rfl rfl) rfl ?_
  refine Tr.val (V.move rfl) rfl ?_
  refine Tr.valG rfl (V.move rfl) rfl ?_
  refine Tr.valG rfl (V.move rfl) rfl ?_
  refine Tr.skipG rfl rfl rfl ?_
  refine Tr.skipG rfl rfl rfl ?_
  refine Tr.valG rfl (V.pick rfl rfl) rfl ?_
  refine Tr.val (V.pick rfl rfl) rfl ?_
  refine Tr.val (V.assign rfl) rfl ?_
  refine Tr.lNil ?_
  refine Tr.thenN ?_
  refine Tr.ret ?_
  refine Tr.out1 rfl (Res.tmp rfl) fun w hw => ?_
  exact ⟨rfl, hw.sub (List.nil_sublist _)⟩

theorem wordsSizes_b (k : Nat) (h1 : 1 ≤ k) (h8 : k = 8) (nn : BitVec 64) (big : Bool) (w : World) :
    Calls Try.prog 7 [.int .i64 (k : Int), U64 nn, .bool big].toArray w fun r w' => r = .returned (.bool true) ∧ Hp w [] [] w' := by
  obtain ⟨e, hee⟩ : ∃ e, e = k := ⟨_, rfl⟩
  have he : effI (k : Int) = e := by rw [hee]; exact effI_nat k (by omega)
  have hcut : (if (0 : Int) < (if (8 : Int) < (k : Int) then 8 else (k : Int)) then (if (8 : Int) < (k : Int) then 8 else (k : Int)) else 0) = (e : Int) := by
    rw [if_neg (show ¬ (8 : Int) < (k : Int) by omega), if_pos (by omega)]
    omega
  obtain ⟨ws, hws⟩ : ∃ ws, ws = putW big nn e := ⟨_, rfl⟩
  have hwl : ws.length = e := by rw [hws, putW_len]
  have hok : decide (getOK (1 + e) 1 (k : Int)) = true := by
    exact decide_eq_true (by unfold getOK; omega)
  have hget : getA big ([7#8] ++ ws) 1 (k : Int) = nn := by
    subst h8
    rw [hws, hee]
    exact (getA_putW big nn [7#8] 8 h1 (by omega)).trans (getL_putL8 nn)
  refine Tr.enter Try.func7 rfl Try.ntmps7 rfl (Hp.refl w) ?_
  refine Tr.seq ?_
  refine Tr.region ?_
  refine Tr.val (V.assign rfl) rfl ?_
  refine Tr.lNil ?_
  refine Tr.thenN ?_
  refine Tr.seq ?_
  refine Tr.region ?_
  refine Tr.op (W.call1 (args0) Try.call18 rfl (fun w _ => shown_true w) ?_)
  refine Tr.val (V.assign rfl) rfl ?_
  refine Tr.lNil ?_
  refine Tr.thenN ?_
  refine Tr.seq ?_
  refine Tr.region ?_
  refine Tr.op (W.build (vs := [U8 7#8]) elem22 (W.parts1 rfl) rfl (by simp [Value.cells]) (by omega) rfl fun g14 => ?_)
  refine Tr.val (V.move rfl) rfl ?_
  refine Tr.val (V.move rfl) rfl ?_
  refine Tr.val (V.move rfl) rfl ?_
  refine Tr.op (W.call (val := fun x : Nat × Nat × List Value => .slice (some ⟨x.1, 0, none⟩) (1 + e) x.2.1) (N := fun x => [⟨x.1, 5, ([7#8] ++ ws).map U8 ++ x.2.2⟩]) (Px := fun x => True)  (args4 rfl rfl rfl rfl) Try.call19 rfl (fun w1 hw => by have h := put_any (some ⟨g14, 0, none⟩) 1 1 [7#8] (k : Int) nn big w1 ((RdP.all (List.Mem.head _)).now hw) rfl (fun h => by cases h) (by omega) (.inl rfl); simp only [PutOut, he, ← hws] at h; exact h.mono fun _ _ ⟨x, h⟩ => ⟨x, h.1, h.2.1, trivial⟩) fun y _ => ?_)
  refine Tr.val (V.assign rfl) rfl ?_
  refine Tr.lNil ?_
  refine Tr.thenN ?_
  refine Tr.seq ?_
  refine Tr.region ?_
  refine Tr.val (V.move rfl) rfl ?_
  refine Tr.val (V.move rfl) rfl ?_
  refine Tr.val (V.move rfl) rfl ?_
  refine Tr.op (W.call1 (args4 rfl rfl rfl rfl) Try.call20 rfl (fun w1 hw => get_any (some ⟨y.1, 0, none⟩) (1 + e) y.2.1 ([7#8] ++ ws) 1 (k : Int) big w1 ((RdP.headL (List.Mem.head _)).now hw) (by rw [List.length_append, hwl]; rfl) (by omega) (by omega) (by omega)) ?_)
  refine Tr.val (V.move rfl) rfl ?_
  refine Tr.val (V.extract rfl rfl) rfl ?_
  refine Tr.val (V.extract rfl rfl) rfl ?_
  refine Tr.val (V.assign rfl) rfl ?_
  refine Tr.val (V.assign rfl) rfl ?_
  refine Tr.lNil ?_
  refine Tr.thenN ?_
  refine Tr.seq ?_
  refine Tr.region ?_
  refine Tr.val (V.move rfl) rfl ?_
  refine Tr.val (V.min (z := if (8 : Int) < (k : Int) then 8 else (k : Int)) rfl rfl rfl) rfl ?_
  refine Tr.val (V.max rfl rfl hcut) rfl ?_
  refine Tr.val (V.assign rfl) rfl ?_
  refine Tr.lNil ?_
  refine Tr.thenN ?_
  refine Tr.seq ?_
  refine Tr.region ?_
  refine Tr.val (V.move rfl) rfl ?_
  refine Tr.val (V.geq (b := true) rfl rfl (decide_eq_true (by omega))) rfl ?_
  refine Tr.val (V.move rfl) rfl ?_
  refine Tr.valG rfl (V.move rfl) rfl ?_
  refine Tr.valG rfl (V.leq (b := true) rfl rfl (decide_eq_true (by omega))) rfl ?_
  refine Tr.val (V.pick rfl rfl) rfl ?_
  refine Tr.val (V.assign rfl) rfl ?_
  refine Tr.lNil ?_
  refine Tr.thenN ?_
  refine Tr.seq ?_
  refine Tr.seq ?_
  refine Tr.region ?_
  refine Tr.val (V.move rfl) rfl ?_
  refine Tr.val (V.lss (b := false) rfl rfl (decide_eq_false (by omega))) rfl ?_
  refine Tr.lNil ?_
  refine Tr.thenN ?_
  refine Tr.condF rfl ?_
  refine Tr.skip ?_
  refine Tr.thenN ?_
  refine Tr.seq ?_
  refine Tr.region ?_
  refine Tr.val (V.move rfl) rfl ?_
  refine Tr.val (V.move rfl) rfl ?_
  refine Tr.valG rfl (V.move rfl) rfl ?_
  refine Tr.valG rfl (V.len Try.runUnderlying22 rfl) rfl ?_
  refine Tr.valG rfl (V.move rfl) rfl ?_
  refine Tr.valG rfl (V.add rfl rfl (by omega)) rfl ?_
  refine Tr.valG rfl (V.eql (b := true) rfl rfl (decide_eq_true (by omega))) rfl ?_
  refine Tr.val (V.pick rfl rfl) rfl ?_
  refine Tr.val (V.move rfl) rfl ?_
  refine Tr.valG rfl (V.move rfl) rfl ?_
  refine Tr.valG rfl (V.idxO (j := 0) (o' := 0) Try.runUnderlying22 Try.sizeOf5 rfl rfl rfl (by omega) rfl) rfl ?_
  refine Tr.valG rfl (V.load1 Try.isAgg5 rfl (V.cellB (List.Mem.head _) rfl)) rfl ?_
  refine Tr.valG rfl (V.eql8 (Y := 7#8) (b := true) rfl rfl (by decide)) rfl ?_
  refine Tr.val (V.pick rfl rfl) rfl ?_
  refine Tr.val (V.move rfl) rfl ?_
  refine Tr.valG rfl (V.move rfl) rfl ?_
  refine Tr.valG rfl (V.move rfl) rfl ?_
  refine Tr.valG rfl (V.eqlBb (b := true) Try.runUnderlying4 rfl rfl (by rw [hok]; rfl)) rfl ?_
  refine Tr.val (V.pick rfl rfl) rfl ?_
  refine Tr.val (V.move rfl) rfl ?_
  refine Tr.valG rfl (V.move rfl) rfl ?_
  refine Tr.valG rfl (V.not rfl) rfl ?_
  refine Tr.valG rfl (V.move rfl) rfl ?_
  refine Tr.valG rfl (V.move rfl) rfl ?_
  refine Tr.valG rfl (V.move rfl) rfl ?_
  refine Tr.valG rfl (V.eql64 (b := true) rfl rfl (decide_eq_true hget)) rfl ?_
  refine Tr.valG rfl (V.pick rfl rfl) rfl ?_
  refine Tr.val (V.pick rfl rfl) rfl ?_
  refine Tr.val (V.move rfl) rfl ?_
  refine Tr.valG rfl (V.move rfl) rfl ?_
  refine Tr.valG rfl (V.move rfl) rfl ?_
  refine Tr.skipG rfl rfl rfl ?_
  refine Tr.skipG rfl rfl rfl ?_
  refine Tr.valG rfl (V.pick rfl rfl) rfl ?_
  refine Tr.val (V.pick rfl rfl) rfl ?_
  refine Tr.val (V.assign rfl) rfl ?_
  refine Tr.lNil ?_
  refine Tr.thenN ?_
  refine Tr.ret ?_
  refine Tr.out1 rfl (Res.tmp rfl) fun w hw => ?_
  exact ⟨rfl, hw.sub (List.nil_sublist _)⟩

theorem wordsSizes_c (i : Int) (h1 : i < 1) (nn : BitVec 64) (big : Bool) (w : World) :
    Calls Try.prog 7 [.int .i64 i, U64 nn, .bool big].toArray w fun r w' => r = .returned (.bool true) ∧ Hp w [] [] w' := by
  have he : effI i = 0 := by have h := effI_eq i; revert h; repeat' split; all_goals (intro h; omega)
  obtain ⟨e, hee⟩ : ∃ e : Nat, e = 0 := ⟨_, rfl⟩
  rw [← hee] at he
  have hcut : (if (0 : Int) < (if (8 : Int) < i then 8 else i) then (if (8 : Int) < i then 8 else i) else 0) = (e : Int) := by
    rw [if_neg (show ¬ (8 : Int) < i by omega), if_neg (by omega)]
    omega
  obtain ⟨ws, hws⟩ : ∃ ws, ws = putW big nn e := ⟨_, rfl⟩
  have hwl : ws.length = e := by rw [hws, putW_len]
  have hok : decide (getOK (1 + e) 1 i) = false := by
    exact decide_eq_false (by unfold getOK; omega)
  have hget : getA big ([7#8] ++ ws) 1 i = 0#64 := by
    have h : ¬ getOK ([7#8] ++ ws).length 1 i := by
      rw [List.length_append, hwl]
      exact of_decide_eq_false hok
    unfold getA
    rw [if_neg h]
  refine Tr.enter Try.func7 rfl Try.ntmps7 rfl (Hp.refl w) ?_
  refine Tr.seq ?_
  refine Tr.region ?_
  refine Tr.val (V.assign rfl) rfl ?_
  refine Tr.lNil ?_
  refine Tr.thenN ?_
  refine Tr.seq ?_
  refine Tr.region ?_
  refine Tr.op (W.call1 (args0) Try.call18 rfl (fun w _ => shown_true w) ?_)
  refine Tr.val (V.assign rfl) rfl ?_
  refine Tr.lNil ?_
  refine Tr.thenN ?_
  refine Tr.seq ?_
  refine Tr.region ?_
  refine Tr.op (W.build (vs := [U8 7#8]) elem22 (W.parts1 rfl) rfl (by simp [Value.cells]) (by omega) rfl fun g14 => ?_)
  refine Tr.val (V.move rfl) rfl ?_
  refine Tr.val (V.move rfl) rfl ?_
  refine Tr.val (V.move rfl) rfl ?_
  refine Tr.op (W.call (val := fun x : Nat × Nat × List Value => .slice (some ⟨x.1, 0, none⟩) (1 + e) x.2.1) (N := fun x => [⟨x.1, 5, ([7#8] ++ ws).map U8 ++ x.2.2⟩]) (Px := fun x => True)  (args4 rfl rfl rfl rfl) Try.call19 rfl (fun w1 hw => by have h := put_any (some ⟨g14, 0, none⟩) 1 1 [7#8] i nn big w1 ((RdP.all (List.Mem.head _)).now hw) rfl (fun h => by cases h) (by omega) (.inl rfl); simp only [PutOut, he, ← hws] at h; exact h.mono fun _ _ ⟨x, h⟩ => ⟨x, h.1, h.2.1, trivial⟩) fun y _ => ?_)
  refine Tr.val (V.assign rfl) rfl ?_
  refine Tr.lNil ?_
  refine Tr.thenN ?_
  refine Tr.seq ?_
  refine Tr.region ?_
  refine Tr.val (V.move rfl) rfl ?_
  refine Tr.val (V.move rfl) rfl ?_
  refine Tr.val (V.move rfl) rfl ?_
  refine Tr.op (W.call1 (args4 rfl rfl rfl rfl) Try.call20 rfl (fun w1 hw => get_any (some ⟨y.1, 0, none⟩) (1 + e) y.2.1 ([7#8] ++ ws) 1 i big w1 ((RdP.headL (List.Mem.head _)).now hw) (by rw [List.length_append, hwl]; rfl) (by omega) (by omega) (by omega)) ?_)
  refine Tr.val (V.move rfl) rfl ?_
  refine Tr.val (V.extract rfl rfl) rfl ?_
  refine Tr.val (V.extract rfl rfl) rfl ?_
  refine Tr.val (V.assign rfl) rfl ?_
  refine Tr.val (V.assign rfl) rfl ?_
  refine Tr.lNil ?_
  refine Tr.thenN ?_
  refine Tr.seq ?_
  refine Tr.region ?_
  refine Tr.val (V.move rfl) rfl ?_
  refine Tr.val (V.min (z := if (8 : Int) < i then 8 else i) rfl rfl rfl) rfl ?_
  refine Tr.val (V.max rfl rfl hcut) rfl ?_
  refine Tr.val (V.assign rfl) rfl ?_
  refine Tr.lNil ?_
  refine Tr.thenN ?_
  refine Tr.seq ?_
  refine Tr.region ?_
  refine Tr.val (V.move rfl) rfl ?_
  refine Tr.val (V.geq (b := false) rfl rfl (decide_eq_false (by omega))) rfl ?_
  refine Tr.val (V.move rfl) rfl ?_
  refine Tr.skipG rfl rfl rfl ?_
  refine Tr.skipG rfl rfl rfl ?_
  refine Tr.val (V.pick rfl rfl) rfl ?_
  refine Tr.val (V.assign rfl) rfl ?_
  refine Tr.lNil ?_
  refine Tr.thenN ?_
  refine Tr.seq ?_
  refine Tr.seq ?_
  refine Tr.region ?_
  refine Tr.val (V.move rfl) rfl ?_
  refine Tr.val (V.lss (b := true) rfl rfl (decide_eq_true (by omega))) rfl ?_
  refine Tr.lNil ?_
  refine Tr.thenN ?_
  refine Tr.condT rfl ?_
  refine Tr.region ?_
  refine Tr.val (V.move rfl) rfl ?_
  refine Tr.val (V.move rfl) rfl ?_
  refine Tr.val (V.mulN (a := 8) rfl rfl (by omega)) rfl ?_
  refine Tr.val (V.convN_64 Try.runUnderlying3 Try.runUnderlying32 rfl (by omega) (by omega)) rfl ?_
  refine Tr.val (V.shl64 (X := 1#64) (s := 8 * e) rfl rfl) rfl ?_
  refine Tr.val (V.sub64 (Y := 1#64) rfl rfl) rfl ?_
  refine Tr.val (V.and64 rfl rfl) rfl ?_
  refine Tr.val (V.assign rfl) rfl ?_
  refine Tr.lNil ?_
  refine Tr.thenN ?_
  refine Tr.seq ?_
  refine Tr.region ?_
  refine Tr.val (V.move rfl) rfl ?_
  refine Tr.val (V.move rfl) rfl ?_
  refine Tr.valG rfl (V.move rfl) rfl ?_
  refine Tr.valG rfl (V.len Try.runUnderlying22 rfl) rfl ?_
  refine Tr.valG rfl (V.move rfl) rfl ?_
  refine Tr.valG rfl (V.add rfl rfl (by omega)) rfl ?_
  refine Tr.valG rfl (V.eql (b := true) rfl rfl (decide_eq_true (by omega))) rfl ?_
  refine Tr.val (V.pick rfl rfl) rfl ?_
  refine Tr.val (V.move rfl) rfl ?_
  refine Tr.valG rfl (V.move rfl) rfl ?_
  refine Tr.valG rfl (V.idxO (j := 0) (o' := 0) Try.runUnderlying22 Try.sizeOf5 rfl rfl rfl (by omega) rfl) rfl ?_
  refine Tr.valG rfl (V.load1 Try.isAgg5 rfl (V.cellB (List.Mem.head _) rfl)) rfl ?_
  refine Tr.valG rfl (V.eql8 (Y := 7#8) (b := true) rfl rfl (by decide)) rfl ?_
  refine Tr.val (V.pick rfl rfl) rfl ?_
  refine Tr.val (V.move rfl) rfl ?_
  refine Tr.valG rfl (V.move rfl) rfl ?_
  refine Tr.valG rfl (V.move rfl) rfl ?_
  refine Tr.valG rfl (V.eqlBb (b := true) Try.runUnderlying4 rfl rfl (by rw [hok]; rfl)) rfl ?_
  refine Tr.val (V.pick rfl rfl) rfl ?_
  refine Tr.val (V.move rfl) rfl ?_
  refine Tr.valG rfl (V.move rfl) rfl ?_
  refine Tr.valG rfl (V.not rfl) rfl ?_
  refine Tr.valG rfl (V.move rfl) rfl ?_
  refine Tr.skipG rfl rfl rfl ?_
  refine Tr.skipG rfl rfl rfl ?_
  refine Tr.skipG rfl rfl rfl ?_
  refine Tr.valG rfl (V.pick rfl rfl) rfl ?_
  refine Tr.val (V.pick rfl rfl) rfl ?_
  refine Tr.val (V.move rfl) rfl ?_
  refine Tr.valG rfl (V.move rfl) rfl ?_
  refine Tr.valG rfl (V.move rfl) rfl ?_
  refine Tr.valG rfl (V.move rfl) rfl ?_
  refine Tr.valG rfl (V.eql64 (Y := 0#64) (b := true) rfl rfl (decide_eq_true hget)) rfl ?_
  refine Tr.valG rfl (V.pick rfl rfl) rfl ?_
  refine Tr.val (V.pick rfl rfl) rfl ?_
  refine Tr.val (V.assign rfl) rfl ?_
  refine Tr.lNil ?_
  refine Tr.thenN ?_
  refine Tr.ret ?_
  refine Tr.out1 rfl (Res.tmp rfl) fun w hw => ?_
  exact ⟨rfl, hw.sub (List.nil_sublist _)⟩

theorem wordsSizes_d (i : Int) (h1 : 8 < i) (nn : BitVec 64) (big : Bool) (w : World) :
    Calls Try.prog 7 [.int .i64 i, U64 nn, .bool big].toArray w fun r w' => r = .returned (.bool true) ∧ Hp w [] [] w' := by
  have he : effI i = 8 := by have h := effI_eq i; revert h; repeat' split; all_goals (intro h; omega)
  obtain ⟨e, hee⟩ : ∃ e : Nat, e = 8 := ⟨_, rfl⟩
  rw [← hee] at he
  have hcut : (if (0 : Int) < (if (8 : Int) < i then 8 else i) then (if (8 : Int) < i then 8 else i) else 0) = (e : Int) := by
    rw [if_pos (show (8 : Int) < i by omega), if_pos (by omega)]
    omega
  obtain ⟨ws, hws⟩ : ∃ ws, ws = putW big nn e := ⟨_, rfl⟩
  have hwl : ws.length = e := by rw [hws, putW_len]
  have hok : decide (getOK (1 + e) 1 i) = false := by
    exact decide_eq_false (by unfold getOK; omega)
  have hget : getA big ([7#8] ++ ws) 1 i = 0#64 := by
    have h : ¬ getOK ([7#8] ++ ws).length 1 i := by
      rw [List.length_append, hwl]
      exact of_decide_eq_false hok
    unfold getA
    rw [if_neg h]
  refine Tr.enter Try.func7 rfl Try.ntmps7 rfl (Hp.refl w) ?_
  refine Tr.seq ?_
  refine Tr.region ?_
  refine Tr.val (V.assign rfl) rfl ?_
  refine Tr.lNil ?_
  refine Tr.thenN ?_
  refine Tr.seq ?_
  refine Tr.region ?_
  refine Tr.op (W.call1 (args0) Try.call18 rfl (fun w _ => shown_true w) ?_)
  refine Tr.val (V.assign rfl) rfl ?_
  refine Tr.lNil ?_
  refine Tr.thenN ?_
  refine Tr.seq ?_
  refine Tr.region ?_
  refine Tr.op (W.build (vs := [U8 7#8]) elem22 (W.parts1 rfl) rfl (by simp [Value.cells]) (by omega) rfl fun g14 => ?_)
  refine Tr.val (V.move rfl) rfl ?_
  refine Tr.val (V.move rfl) rfl ?_
  refine Tr.val (V.move rfl) rfl ?_
  refine Tr.op (W.call (val := fun x : Nat × Nat × List Value => .slice (some ⟨x.1, 0, none⟩) (1 + e) x.2.1) (N := fun x => [⟨x.1, 5, ([7#8] ++ ws).map U8 ++ x.2.2⟩]) (Px := fun x => True)  (args4 rfl rfl rfl rfl) Try.call19 rfl (fun w1 hw => by have h := put_any (some ⟨g14, 0, none⟩) 1 1 [7#8] i nn big w1 ((RdP.all (List.Mem.head _)).now hw) rfl (fun h => by cases h) (by omega) (.inl rfl); simp only [PutOut, he, ← hws] at h; exact h.mono fun _ _ ⟨x, h⟩ => ⟨x, h.1, h.2.1, trivial⟩) fun y _ => ?_)
  refine Tr.val (V.assign rfl) rfl ?_
  refine Tr.lNil ?_
  refine Tr.thenN ?_
  refine Tr.seq ?_
  refine Tr.region ?_
  refine Tr.val (V.move rfl) rfl ?_
  refine Tr.val (V.move rfl) rfl ?_
  refine Tr.val (V.move rfl) rfl ?_
  refine Tr.op (W.call1 (args4 rfl rfl rfl rfl) Try.call20 rfl (fun w1 hw => get_any (some ⟨y.1, 0, none⟩) (1 + e) y.2.1 ([7#8] ++ ws) 1 i big w1 ((RdP.headL (List.Mem.head _)).now hw) (by rw [List.length_append, hwl]; rfl) (by omega) (by omega) (by omega)) ?_)
  refine Tr.val (V.move rfl) rfl ?_
  refine Tr.val (V.extract rfl rfl) rfl ?_
  refine Tr.val (V.extract rfl rfl) rfl ?_
  refine Tr.val (V.assign rfl) rfl ?_
  refine Tr.val (V.assign rfl) rfl ?_
  refine Tr.lNil ?_
  refine Tr.thenN ?_
  refine Tr.seq ?_
  refine Tr.region ?_
  refine Tr.val (V.move rfl) rfl ?_
  refine Tr.val (V.min (z := if (8 : Int) < i then 8 else i) rfl rfl rfl) rfl ?_
  refine Tr.val (V.max rfl rfl hcut) rfl ?_
  refine Tr.val (V.assign rfl) rfl ?_
  refine Tr.lNil ?_
  refine Tr.thenN ?_
  refine Tr.seq ?_
  refine Tr.region ?_
  refine Tr.val (V.move rfl) rfl ?_
  refine Tr.val (V.geq (b := true) rfl rfl (decide_eq_true (by omega))) rfl ?_
  refine Tr.val (V.move rfl) rfl ?_
  refine Tr.valG rfl (V.move rfl) rfl ?_
  refine Tr.valG rfl (V.leq (b := false) rfl rfl (decide_eq_false (by omega))) rfl ?_
  refine Tr.val (V.pick rfl rfl) rfl ?_
  refine Tr.val (V.assign rfl) rfl ?_
  refine Tr.lNil ?_
  refine Tr.thenN ?_
  refine Tr.seq ?_
  refine Tr.seq ?_
  refine Tr.region ?_
  refine Tr.val (V.move rfl) rfl ?_
  refine Tr.val (V.lss (b := false) rfl rfl (decide_eq_false (by omega))) rfl ?_
  refine Tr.lNil ?_
  refine Tr.thenN ?_
  refine Tr.condF rfl ?_
  refine Tr.skip ?_
  refine Tr.thenN ?_
  refine Tr.seq ?_
  refine Tr.region ?_
  refine Tr.val (V.move rfl) rfl ?_
  refine Tr.val (V.move rfl) rfl ?_
  refine Tr.valG rfl (V.move rfl) rfl ?_
  refine Tr.valG rfl (V.len Try.runUnderlying22 rfl) rfl ?_
  refine Tr.valG rfl (V.move rfl) rfl ?_
  refine Tr.valG rfl (V.add rfl rfl (by omega)) rfl ?_
  refine Tr.valG rfl (V.eql (b := true) rfl rfl (decide_eq_true (by omega))) rfl ?_
  refine Tr.val (V.pick rfl rfl) rfl ?_
  refine Tr.val (V.move rfl) rfl ?_
  refine Tr.valG rfl (V.move rfl) rfl ?_
  refine Tr.valG rfl (V.idxO (j := 0) (o' := 0) Try.runUnderlying22 Try.sizeOf5 rfl rfl rfl (by omega) rfl) rfl ?_
  refine Tr.valG rfl (V.load1 Try.isAgg5 rfl (V.cellB (List.Mem.head _) rfl)) rfl ?_
  refine Tr.valG rfl (V.eql8 (Y := 7#8) (b := true) rfl rfl (by decide)) rfl ?_
  refine Tr.val (V.pick rfl rfl) rfl ?_
  refine Tr.val (V.move rfl) rfl ?_
  refine Tr.valG rfl (V.move rfl) rfl ?_
  refine Tr.valG rfl (V.move rfl) rfl ?_
  refine Tr.valG rfl (V.eqlBb (b := true) Try.runUnderlying4 rfl rfl (by rw [hok]; rfl)) rfl ?_
  refine Tr.val (V.pick rfl rfl) rfl ?_
  refine Tr.val (V.move rfl) rfl ?_
  refine Tr.valG rfl (V.move rfl) rfl ?_
  refine Tr.valG rfl (V.not rfl) rfl ?_
  refine Tr.valG rfl (V.move rfl) rfl ?_
  refine Tr.skipG rfl rfl rfl ?_
  refine Tr.skipG rfl rfl rfl ?_
  refine Tr.skipG rfl rfl rfl ?_
  refine Tr.valG rfl (V.pick rfl rfl) rfl ?_
  refine Tr.val (V.pick rfl rfl) rfl ?_
  refine Tr.val (V.move rfl) rfl ?_
  refine Tr.valG rfl (V.move rfl) rfl ?_
  refine Tr.valG rfl (V.move rfl) rfl ?_
  refine Tr.valG rfl (V.move rfl) rfl ?_
  refine Tr.valG rfl (V.eql64 (Y := 0#64) (b := true) rfl rfl (decide_eq_true hget)) rfl ?_
  refine Tr.valG rfl (V.pick rfl rfl) rfl ?_
  refine Tr.val (V.pick rfl rfl) rfl ?_
  refine Tr.val (V.assign rfl) rfl ?_
  refine Tr.lNil ?_
  refine Tr.thenN ?_
  refine Tr.ret ?_
  refine Tr.out1 rfl (Res.tmp rfl) fun w hw => ?_
  exact ⟨rfl, hw.sub (List.nil_sublist _)⟩

theorem wordsSizes_walk (a0 a1 : Int) (a2 : Bool) (w : World) (w0 : (Lit.int .i64 a0).wf = true) (w1 : (Lit.int .u64 a1).wf = true) :
    Calls Try.prog 7 #[.int .i64 a0, .int .u64 a1, .bool a2] w fun r w' => r = .returned (.bool true) ∧ Hp w [] [] w' := by
  obtain ⟨X, rfl⟩ := wf64 w1
  by_cases h1 : a0 < 1
  · exact wordsSizes_c a0 h1 X a2 w
  · by_cases h2 : 8 < a0
    · exact wordsSizes_d a0 h2 X a2 w
    · obtain ⟨k, rfl⟩ := Int.eq_ofNat_of_zero_le (show (0 : Int) ≤ a0 by omega)
      by_cases h3 : k < 8
      · exact wordsSizes_a k (by omega) h3 X a2 w
      · exact wordsSizes_b k (by omega) (by omega) X a2 w
namespace wordsSizes
open Go.ChangeShapes Go.WideShapes Go.ChangeAt Go.RowKit Go.Sym
theorem own : ownKnob Try.prog.godebug = none := by kernel_rfl
theorem laidOut : laidOutB Try.prog = true := by kernel_rfl
set_option maxRecDepth 100000 in
theorem lifted (os : Os) (started : os.Started) (H : Type) (enc : TypeId × Value → H) :
    ReturnsInHanded {} Try.checked os 7 .any (Rows.wordsSizesSpec.pre6 enc Try.prog Try.f7 Rows.wordsSizesRow.domain false) (Rows.wordsSizesSpec.post enc Try.prog Try.f7 false true false false) := by
  refine returnsInHanded_of_change (C := Try.checked) own started (by kernel_rfl) Try.func7
    (ChangeSpec.witness6 (enc := enc) (C := Try.checked) false ⟨#[], #[.int .i64 0, .int .u64 0, .bool false], []⟩ 8 (by kernel_rfl) (by kernel_rfl) (by kernel_rfl) (by kernel_rfl)) ?_
  intro W base args ds gs before hval0 hW hcnd _
  have hval : ∀ (j : Nat) t v, Try.f7.params[j]? = some t → args[j]? = some v → Value.okWide Try.prog W .any base t v := hval0
  have hW' := hW
  obtain ⟨p, q, hA0, hV, rfl, hfz, hnd⟩ := hW
  have hA : DataW.TrodAll enc Try.prog W 0 (fun _ => true) true Try.f7.params.toList args.toList ds p := hA0
  rw [Try.params7] at hA hval
  obtain ⟨v0, vs0, d0, ds0, p0, q0, hargs, rfl, rfl, h0, r0⟩ := trodAll_cons hA
  obtain ⟨v1, vs1, d1, ds1, p1, q1, rfl, rfl, rfl, h1, r1⟩ := trodAll_cons r0
  obtain ⟨v2, vs2, d2, ds2, p2, q2, rfl, rfl, rfl, h2, r2⟩ := trodAll_cons r1
  obtain ⟨rfl, rfl, rfl⟩ := trodAll_nil r2
  obtain rfl : args = #[v0, v1, v2] := by cases args; simp_all
  obtain ⟨rfl, rfl⟩ := trodVars_none hV
  obtain ⟨a0, rfl, rfl, rfl, w0⟩ := open_int Try.underlying3 (hval 0 3 v0 rfl rfl) h0
  obtain ⟨a1, rfl, rfl, rfl, w1⟩ := open_int Try.underlying23 (hval 1 23 v1 rfl rfl) h1
  obtain ⟨a2, rfl, rfl, rfl⟩ := open_bool Try.underlying4 (hval 2 4 v2 rfl rfl) h2
  clear hA0 hval0
  refine (wordsSizes_walk a0 a1 a2 W w0 w1).mono fun e W' ⟨he, hp⟩ => ?_
  have bel : Below W.heap.size W W' := hp.below
  subst he
  exact ⟨_, rfl, _, _, _, [], _, [], hW', trodAll_mk1 (shut_bool Try.underlying4 _), (trodAll_cons_mk (shut_int Try.underlying3 w0) (trodAll_cons_mk (shut_int Try.underlying23 w1) (trodAll_cons_mk (shut_bool Try.underlying4 _) trodAll_mk0))), rfl, bel.frame _, fun h => by cases h⟩
theorem over : Rows.wordsSizesRow.holds Try.pinned (OpenSpec.ofChange Rows.wordsSizesSpec) :=
  OpenClaim.holds_of_wide 7 Try.f7 rfl rfl rfl rfl rfl rfl rfl ⟨rfl, rfl, rfl, rfl, rfl⟩ rfl rfl rfl rfl rfl (by kernel_rfl) Try.func7 (by kernel_rfl)
    (of_decide_eq_true (by kernel_rfl)) (by unfold Func.isWrapper; first | (rw [if_pos (by decide +kernel)]; kernel_rfl) | (rw [if_neg (by decide +kernel)]; exact ⟨rfl, rfl⟩))
    (fun os started H enc _ => lifted os started H enc)
end wordsSizes
/-- The statement. -/
theorem wordsSizesProved : Rows.WordsSizesSaid := wordsSizes.over
end Go.Proofs.Ytnhfmmohdiccgaa
