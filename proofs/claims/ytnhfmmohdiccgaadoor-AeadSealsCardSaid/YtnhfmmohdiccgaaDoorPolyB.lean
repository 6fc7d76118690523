/-
  Contracts of poly.half, next and Sum. (Printed by a program of this session over its walk printer.)
-/
import Derived.Test.YtnhfmmohdiccgaaDoorPolyA
import Derived.Test.YtnhfmmohdiccgaaDoorPlainPolyB
import Derived.Test.YtnhfmmohdiccgaaDoorAny1
import Derived.Test.YtnhfmmohdiccgaaDoorFrame
import Derived.Test.YtnhfmmohdiccgaaDoorSymI
namespace Go.Proofs.YtnhfmmohdiccgaaDoor
open Go.Sym Plain
set_option linter.unusedVariables false

theorem half_any (p : Option Addr) (m c at0 : Nat) (xs : List (BitVec 8)) (w : World) (hr : RdB w p (xs.map U8)) (hl : xs.length = m) (hm : m ≤ 9223372036854775807) (ha : at0 + 8 ≤ m) :
    Calls Tryd.prog 49 [.slice p m c, .int .i64 (at0 : Int)].toArray w fun r w' => r = .returned (U64 (getW false xs at0 8)) ∧ Hp w [] [] w' := by
  refine Tr.enter Tryd.func49 rfl Tryd.ntmps49 rfl (Hp.refl w) ?_
  refine Tr.seq ?_
  refine Tr.region ?_
  refine Tr.val (V.assign (v := U64 0#64) rfl) rfl ?_
  refine Tr.lNil ?_
  refine Tr.thenN ?_
  refine Tr.seq ?_
  refine Tr.region ?_
  refine Tr.val (V.move rfl) rfl ?_
  refine Tr.val (V.move rfl) rfl ?_
  refine Tr.op (W.call1 (args4 rfl rfl rfl rfl) Tryd.call36 rfl (fun w1 hw => get_ok p m c at0 8 false xs w1 ((RdP.old hr (fun _ _ => by simp)).now hw) hl hm (by omega) (by omega) ha) ?_)
  refine Tr.val (V.move rfl) rfl ?_
  refine Tr.val (V.extract rfl rfl) rfl ?_
  refine Tr.val (V.extract rfl rfl) rfl ?_
  refine Tr.val (V.assign rfl) rfl ?_
  refine Tr.val (V.assign rfl) rfl ?_
  refine Tr.lNil ?_
  refine Tr.thenN ?_
  refine Tr.seq ?_
  refine Tr.region ?_
  refine Tr.val (V.move rfl) rfl ?_
  refine Tr.val (V.assign rfl) rfl ?_
  refine Tr.lNil ?_
  refine Tr.thenN ?_
  refine Tr.ret ?_
  refine Tr.out1 rfl (Res.tmp rfl) fun w hw => ?_
  exact ⟨rfl, hw⟩

theorem next_any (p : Option Addr) (m c q : Nat) (xs : List (BitVec 8)) (w : World) (hx : Bytes w p m c xs) (hq : q = Nat.min m 16) :
    Calls Tryd.prog 50 [.slice p m c].toArray w fun r w' => r = .returned (.tuple #[.agg ((nat3 (partN (xs.take 16))).map U64).toArray, .slice (if c = q then p else p.map (·.add q)) (m - q) (c - q)]) ∧ Hp w [] [] w' := by
  have hl := hx.length
  have hle := hx.le
  have hmx := hx.max
  have hqm : q ≤ m := by rw [hq]; exact Nat.min_le_left _ _
  have hq16 : q ≤ 16 := by rw [hq]; exact Nat.min_le_right _ _
  have htl : (xs.take 16).length = q := by rw [List.length_take, hl, hq]; exact Nat.min_comm _ _
  obtain ⟨F, hF⟩ : ∃ F, F = partF (xs.take 16) := ⟨_, rfl⟩
  have hFl : F.length = 24 := by rw [hF]; exact partF_len _ (by omega)
  have hN : [getW false F 0 8, getW false F 8 8, getW false F 16 8] = nat3 (partN (xs.take 16)) := by rw [three_words F hFl, hF, partF_leN]
  obtain ⟨F0, hF0⟩ : ∃ F0, F0 = xs.take 16 ++ List.replicate (24 - q) 0#8 := ⟨_, rfl⟩
  have hF0l : F0.length = 24 := by rw [hF0, List.length_append, htl, List.length_replicate]; omega
  have hset : F0.set q 1#8 = F := by rw [hF0, hF]; exact partF_set _ q htl hq16
  have htq : xs.take q = xs.take 16 := by
    rcases Nat.le_total m 16 with h | h
    · rw [show q = m by rw [hq]; exact Nat.min_eq_left h, List.take_of_length_le (by omega), List.take_of_length_le (by omega)]
    · rw [show q = 16 by rw [hq]; exact Nat.min_eq_right h]
  refine Tr.enter Tryd.func50 rfl Tryd.ntmps50 rfl (Hp.refl w) ?_
  refine Tr.seq ?_
  refine Tr.region ?_
  refine Tr.op (W.alloc (cs := [0#64, 0#64, 0#64].map U64) Tryd.zeroValue82 rfl rfl fun g2 => ?_)
  refine Tr.val (V.assign rfl) rfl ?_
  refine Tr.lNil ?_
  refine Tr.thenN ?_
  refine Tr.seq ?_
  refine Tr.region ?_
  refine Tr.op (W.alloc (cs := (List.replicate 24 0#8).map U8) Tryd.zeroValue93 rfl rfl fun g4 => ?_)
  refine Tr.lNil ?_
  refine Tr.thenN ?_
  refine Tr.seq ?_
  refine Tr.region ?_
  refine Tr.val (V.sliceP (l := 0) (h := 16) (o' := 0) (m' := 16) (c' := 24) Tryd.runUnderlying93 Tryd.sizeOf5 rfl rfl rfl rfl rfl (by omega) (by omega) (by omega) (by omega) (by omega) (by omega)) rfl ?_
  refine Tr.val (V.move rfl) rfl ?_
  refine Tr.op (W.copy (d := 8) (q := q) (cs := (List.replicate 24 0#8).map U8) (vs := xs.map U8) (cs' := F0.map U8) elem27 rfl rfl hx.old (by rw [List.length_map]; exact hl) (one8 _) hq (by repeat (first | exact Upd.head | apply Upd.tail)) (by rw [List.length_map, List.length_replicate]; omega) (by rw [hF0, List.take_zero, List.nil_append, ← List.map_take, htq, ← List.map_drop, List.drop_replicate, Nat.zero_add, List.map_append]) (.inr ⟨rfl, rfl⟩) rfl ?_)
  refine Tr.val (V.assign rfl) rfl ?_
  refine Tr.lNil ?_
  refine Tr.thenN ?_
  refine Tr.seq ?_
  refine Tr.region ?_
  refine Tr.val (V.move rfl) rfl ?_
  refine Tr.val (V.idxA (j := q) (o' := q) Tryd.runUnderlying93 Tryd.sizeOf5 rfl rfl (by omega) (by omega) (by omega)) rfl ?_
  refine Tr.op (W.store1E (cs := F0.map U8) (v := U8 1#8) (cs' := F.map U8) Tryd.sizeOf5 rfl rfl rfl rfl (by rw [← hset, List.map_set]) (by repeat (first | exact Upd.head | apply Upd.tail)) (by rw [List.length_map]; omega) ?_)
  refine Tr.lNil ?_
  refine Tr.thenN ?_
  refine Tr.seq ?_
  refine Tr.regionD [0, 1, 0, 7, 0, 31, 63, 0, 0, 384, 127, 2047] [10] (.pure 0 (.soft 1 (.pure 2 (.soft 3 (.pure 4 (.soft 5 (.pure 6 (.pure 7 (.pure 8 (.pure 9 (.hard 10 (.pure 11 .done)))))))))))) mixed (by kernel_rfl) ?_
  refine TrP.pure rfl (fun _ => V.sliceW Tryd.runUnderlying93 Tryd.sizeOf5 rfl) rfl ?_
  refine TrP.call rfl (args2 rfl rfl) Tryd.call49 rfl (fun w1 hw => half_any (some ⟨g4, 0, none⟩) 24 24 0 F w1 ((RdP.all (by repeat (first | exact List.Mem.head _ | apply List.Mem.tail))).now hw) hFl (by omega) (by omega)) ?_
  refine TrP.pure rfl (fun _ => V.sliceW Tryd.runUnderlying93 Tryd.sizeOf5 rfl) rfl ?_
  refine TrP.call rfl (args2 rfl rfl) Tryd.call49 rfl (fun w1 hw => half_any (some ⟨g4, 0, none⟩) 24 24 8 F w1 ((RdP.all (by repeat (first | exact List.Mem.head _ | apply List.Mem.tail))).now hw) hFl (by omega) (by omega)) ?_
  refine TrP.pure rfl (fun _ => V.sliceW Tryd.runUnderlying93 Tryd.sizeOf5 rfl) rfl ?_
  refine TrP.call rfl (args2 rfl rfl) Tryd.call49 rfl (fun w1 hw => half_any (some ⟨g4, 0, none⟩) 24 24 16 F w1 ((RdP.all (by repeat (first | exact List.Mem.head _ | apply List.Mem.tail))).now hw) hFl (by omega) (by omega)) ?_
  refine TrP.pure rfl (fun _ => (V.buildA (vs := [(0, U64 (getW false F 0 8)), (1, U64 (getW false F 8 8)), (2, U64 (getW false F 16 8))]) (cs := ([getW false F 0 8, getW false F 8 8, getW false F 16 8].map U64).toArray) Tryd.runUnderlying82 Tryd.sizeOf53 Tryd.zeroValue82 (fun a he => by simp [he.eval (x := .tmp 12) (v := U64 (getW false F 0 8)) rfl, he.eval (x := .tmp 14) (v := U64 (getW false F 8 8)) rfl, he.eval (x := .tmp 16) (v := U64 (getW false F 16 8)) rfl]) rfl)) rfl ?_
  refine TrP.pure rfl (fun _ => V.move rfl) rfl ?_
  refine TrP.pure rfl (fun _ => V.move rfl) rfl ?_
  refine TrP.pure rfl (fun _ => V.sliceS (l := q) Tryd.runUnderlying27 Tryd.sizeOf5 rfl rfl rfl rfl rfl (by omega) (by omega)) rfl ?_
  refine TrP.hard rfl (W.storeAll (vs := [getW false F 0 8, getW false F 8 8, getW false F 16 8].map U64) (cs := [0#64, 0#64, 0#64].map U64) Tryd.sizeOf82 rfl rfl rfl rfl (one64 _) (by repeat (first | exact Upd.head | apply Upd.tail)) ?_)
  refine Tr.pTail rfl ?_
  refine TrP.pure rfl (fun _ => V.assign rfl) rfl ?_
  refine TrP.done ?_
  refine Tr.thenN ?_
  refine Tr.ret ?_
  refine Tr.out2 rfl (Res.cellN (cs := [getW false F 0 8, getW false F 8 8, getW false F 16 8].map U64) rfl Tryd.isAgg82 Tryd.sizeOf82 (by repeat (first | exact List.Mem.head _ | apply List.Mem.tail))) (Res.tmp rfl) fun w hw => ?_
  exact ⟨by rw [← hN], hw.sub (List.nil_sublist _)⟩

set_option maxRecDepth 20000 in
theorem sum_any (p0 : Option Addr) (m0 c0 : Nat) (key xs : List (BitVec 8)) (w : World) (hk : key.length = 32) (hx0 : Bytes w p0 m0 c0 xs) :
    Calls Tryd.prog 42 [.agg (key.map U8).toArray, .slice p0 m0 c0].toArray w fun r w' => r = .returned (.agg ((polyTag key xs).map U8).toArray) ∧ Hp w [] [] w' := by
  obtain ⟨R, hR⟩ : ∃ R, R = [getW false key 0 8 &&& 1152921487695413247#64, getW false key 8 8 &&& 1152921487695413244#64] := ⟨_, rfl⟩
  have hRl : R.length = 2 := by rw [hR]; rfl
  have hRv : val R = polyR key := by rw [hR]; exact polyR_val key hk
  have hRlt := polyR_lt key hk
  have hSlt := polyS_lt key hk
  have hS3 := two_words3 key hk
  refine Tr.enter Tryd.func42 rfl Tryd.ntmps42 rfl (Hp.refl w) ?_
  refine Tr.seq ?_
  refine Tr.region ?_
  refine Tr.op (W.box (cs := key.map U8) rfl rfl rfl fun g2 => ?_)
  refine Tr.op (W.alloc (cs := (List.replicate 16 0#8).map U8) Tryd.zeroValue61 rfl rfl fun g4 => ?_)
  refine Tr.lNil ?_
  refine Tr.thenN ?_
  refine Tr.seq ?_
  refine Tr.regionD [0, 1, 3, 0, 11, 27, 63, 0, 255] [8] (.pure 0 (.soft 1 (.pure 2 (.pure 3 (.soft 4 (.pure 5 (.pure 6 (.hard 7 (.hard 8 .done))))))))) mixed (by kernel_rfl) ?_
  refine TrP.pure rfl (fun _ => V.sliceW Tryd.runUnderlying23 Tryd.sizeOf5 rfl) rfl ?_
  refine TrP.call rfl (args2 rfl rfl) Tryd.call49 rfl (fun w1 hw => half_any (some ⟨g2, 0, none⟩) 32 32 0 key w1 ((RdP.all (by repeat (first | exact List.Mem.head _ | apply List.Mem.tail))).now hw) hk (by omega) (by omega)) ?_
  refine TrP.pure rfl (fun _ => V.and64 (Y := 1152921487695413247#64) rfl rfl) rfl ?_
  refine TrP.pure rfl (fun _ => V.sliceW Tryd.runUnderlying23 Tryd.sizeOf5 rfl) rfl ?_
  refine TrP.call rfl (args2 rfl rfl) Tryd.call49 rfl (fun w1 hw => half_any (some ⟨g2, 0, none⟩) 32 32 8 key w1 ((RdP.all (by repeat (first | exact List.Mem.head _ | apply List.Mem.tail))).now hw) hk (by omega) (by omega)) ?_
  refine TrP.pure rfl (fun _ => V.and64 (Y := 1152921487695413244#64) rfl rfl) rfl ?_
  refine TrP.pure rfl (fun _ => (by rw [hR]; exact (V.buildA (vs := [(0, U64 (getW false key 0 8 &&& 1152921487695413247#64)), (1, U64 (getW false key 8 8 &&& 1152921487695413244#64))]) (cs := ([getW false key 0 8 &&& 1152921487695413247#64, getW false key 8 8 &&& 1152921487695413244#64].map U64).toArray) Tryd.runUnderlying80 Tryd.sizeOf53 Tryd.zeroValue80 (fun a he => by simp [he.eval (x := .tmp 10) (v := U64 (getW false key 0 8 &&& 1152921487695413247#64)) rfl, he.eval (x := .tmp 13) (v := U64 (getW false key 8 8 &&& 1152921487695413244#64)) rfl]) rfl) : VOp Tryd.prog _ _ _ _ _ _ _ (.agg (R.map U64).toArray))) rfl ?_
  refine TrP.hard rfl (W.alloc (cs := [0#64, 0#64].map U64) Tryd.zeroValue80 rfl rfl fun g5 => ?_)
  refine Tr.pOn (by first | exact List.Sublist.refl _ | exact List.sublist_cons_self _ _ | exact List.sublist_append_right _ _ | simp) ?_
  refine TrP.hard rfl (W.storeAll (vs := R.map U64) (cs := [0#64, 0#64].map U64) Tryd.sizeOf80 rfl rfl (by rw [List.length_map, hRl]) rfl (one64 _) (by repeat (first | exact Upd.head | apply Upd.tail)) ?_)
  refine Tr.pTail rfl ?_
  refine TrP.done ?_
  refine Tr.thenN ?_
  refine Tr.seq ?_
  refine Tr.region ?_
  refine Tr.op (W.alloc (cs := (nat3 0).map U64) Tryd.zeroValue82 rfl rfl fun g6 => ?_)
  refine Tr.lNil ?_
  refine Tr.thenN ?_
  refine Tr.seq ?_
  refine Tr.block ?_
  refine Tr.loop (ι := Nat × Option Addr × Nat × Nat) (fun x => Bytes w x.2.1 (m0 - 16 * x.1) x.2.2.1 (xs.drop (16 * x.1)) ∧ x.2.2.2 % 1361129467683753853853498429727072845819 = polyAcc (polyR key) xs x.1 ∧ x.2.2.2 < 2722258935367507707706996859454145691648 ∧ 16 * x.1 ≤ m0 + 15) (fun x => [(1, .slice x.2.1 (m0 - 16 * x.1) x.2.2.1), (2, .pointer (some ⟨g2, 0, none⟩)), (4, .pointer (some ⟨g4, 0, none⟩)), (5, .pointer (some ⟨g5, 0, none⟩)), (6, .pointer (some ⟨g6, 0, none⟩))]) (fun x => [⟨g6, 82, (nat3 x.2.2.2).map U64⟩, ⟨g5, 80, R.map U64⟩, ⟨g4, 61, (List.replicate 16 0#8).map U8⟩, ⟨g2, 23, key.map U8⟩]) (fun x => m0 - 16 * x.1) (0, p0, c0, 0) ⟨hx0, rfl, by simp only; omega, by simp only; omega⟩ (lk_cons rfl (lk_cons rfl (lk_cons rfl (lk_cons rfl (lk_cons rfl (lk_nil _)))))) (List.Sublist.refl _) fun x hI => ?_
  obtain ⟨k, p, c, a⟩ := x
  obtain ⟨hx, hacc, hab, hk16⟩ := hI
  simp only at hx hacc hab hk16
  obtain ⟨m, hm⟩ : ∃ m, m = m0 - 16 * k := ⟨_, rfl⟩
  simp only [← hm] at hx ⊢
  have hml := hx.length
  have hmle := hx.le
  have hmmx := hx.max
  refine Tr.seq ?_
  refine Tr.seq ?_
  refine Tr.region ?_
  refine Tr.val (V.move rfl) rfl ?_
  refine Tr.val (V.len Tryd.runUnderlying27 rfl) rfl ?_
  refine Tr.val (V.gtr rfl rfl rfl) rfl ?_
  refine Tr.lNil ?_
  refine Tr.thenN ?_
  refine Tr.cond rfl (fun hT0 => ?_) (fun hF0 => ?_)
  · simp only [decide_eq_true_eq] at hT0
    obtain ⟨q, hq⟩ : ∃ q, q = Nat.min m 16 := ⟨_, rfl⟩
    have hqm : q ≤ m := by rw [hq]; exact Nat.min_le_left _ _
    have hq16 : q ≤ 16 := by rw [hq]; exact Nat.min_le_right _ _
    have hqq : m - q = m0 - 16 * (k + 1) := by
      rcases Nat.le_total m 16 with h | h
      · rw [show q = m by rw [hq]; exact Nat.min_eq_left h]; omega
      · rw [show q = 16 by rw [hq]; exact Nat.min_eq_right h]; omega
    have hpl : ((xs.drop (16 * k)).take 16).length ≤ 16 := by rw [List.length_take]; exact Nat.min_le_left _ _
    obtain ⟨n, hn⟩ : ∃ n, n = partN ((xs.drop (16 * k)).take 16) := ⟨_, rfl⟩
    have hnle : n ≤ 680564733841876926926749214863536422912 := by rw [hn]; exact Nat.le_of_lt (partN_le _ hpl)
    obtain ⟨M, hM⟩ : ∃ M, M = (a + n) * polyR key := ⟨_, rfl⟩
    have hB := poly_bound hab hnle hRlt hM
    have hst := poly_step hacc hM
    obtain ⟨a', ha'⟩ : ∃ a', a' = M % 1361129467683753853853498429727072845824 + 5 * (M / 1361129467683753853853498429727072845824) := ⟨_, rfl⟩
    rw [← ha'] at hB hst
    have hacc1 : a' % 1361129467683753853853498429727072845819 = polyAcc (polyR key) xs (k + 1) := by rw [hst, hn]; rfl
    have hx1 : Bytes w (if c = q then p else p.map (·.add q)) (m0 - 16 * (k + 1)) (c - q) (xs.drop (16 * (k + 1))) := by
      have h := hx.drop q (by omega)
      rw [hqq, List.drop_drop] at h
      have e : xs.drop (16 * k + q) = xs.drop (16 * (k + 1)) := by
        have hxl := hx0.length
        rcases Nat.le_total m 16 with h | h
        · rw [List.drop_eq_nil_of_le (by rw [hxl, show q = m by rw [hq]; exact Nat.min_eq_left h]; omega), List.drop_eq_nil_of_le (by omega)]
        · rw [show q = 16 by rw [hq]; exact Nat.min_eq_right h]; rfl
      rw [e] at h
      exact h
    have hnx : (Value.slice (if c = q then p else p.map (·.add q)) (m - q) (c - q)) = Value.slice (if c = q then p else p.map (·.add q)) (m0 - 16 * (k + 1)) (c - q) := by rw [hqq]
    refine Tr.skip ?_
    refine Tr.thenN ?_
    refine Tr.block ?_
    refine Tr.seq ?_
    refine Tr.region ?_
    refine Tr.op (W.alloc (cs := [0#64, 0#64, 0#64].map U64) Tryd.zeroValue82 rfl rfl fun g7 => ?_)
    refine Tr.lNil ?_
    refine Tr.thenN ?_
    refine Tr.seq ?_
    refine Tr.region ?_
    refine Tr.val (V.move rfl) rfl ?_
    refine Tr.op (W.call1 (args1 rfl) Tryd.call50 rfl (fun w1 hw => by have h := next_any p m c q (xs.drop (16 * k)) w1 (hx.now hw) hq; rw [← hn] at h; exact h) ?_)
    refine Tr.val (V.move rfl) rfl ?_
    refine Tr.val (V.extract rfl rfl) rfl ?_
    refine Tr.val (V.extract rfl rfl) rfl ?_
    refine Tr.op (W.storeAll (vs := (nat3 n).map U64) (cs := [0#64, 0#64, 0#64].map U64) Tryd.sizeOf82 rfl rfl rfl rfl (one64 _) (by repeat (first | exact Upd.head | apply Upd.tail)) ?_)
    refine Tr.val (V.assign rfl) rfl ?_
    refine Tr.lNil ?_
    refine Tr.thenN ?_
    refine Tr.regionD [0, 0, 3, 0, 15, 31] [5] (.soft 0 (.soft 1 (.soft 2 (.soft 3 (.soft 4 (.hard 5 .done)))))) mixed (by kernel_rfl) ?_
    refine TrP.soft rfl (V.loadN (cs := (nat3 a).map U64) Tryd.isAgg82 Tryd.sizeOf82 rfl (V.cellsB (by repeat (first | exact List.Mem.head _ | apply List.Mem.tail)))) rfl ?_
    refine TrP.soft rfl (V.loadN (cs := (nat3 n).map U64) Tryd.isAgg82 Tryd.sizeOf82 rfl (V.cellsB (by repeat (first | exact List.Mem.head _ | apply List.Mem.tail)))) rfl ?_
    refine TrP.call rfl (args2 rfl rfl) Tryd.call51 rfl (fun w1 hw => by have h := plus_nat a n w1 (by omega) (by omega); rw [Nat.mod_eq_of_lt (by omega)] at h; exact h) ?_
    refine TrP.soft rfl (V.loadN (cs := R.map U64) Tryd.isAgg80 (by rw [List.length_map, hRl]; exact Tryd.sizeOf80) rfl (V.cellsB (by repeat (first | exact List.Mem.head _ | apply List.Mem.tail)))) rfl ?_
    refine TrP.call rfl (args2 rfl rfl) Tryd.call52 rfl (fun w1 hw => by have h := times_any (a + n) R w1 (by omega) hRl (by rw [hRv, ← hM]; exact hB.1); rw [hRv, ← hM, ← ha'] at h; exact h) ?_
    refine TrP.hard rfl (W.storeAll (vs := (nat3 a').map U64) (cs := (nat3 a).map U64) Tryd.sizeOf82 rfl rfl rfl rfl (one64 _) (by repeat (first | exact Upd.head | apply Upd.tail)) ?_)
    refine Tr.pTail rfl ?_
    refine TrP.done ?_
    refine Tr.inN ?_
    exact Tr.again (k + 1, (if c = q then p else p.map (·.add q)), c - q, a') ⟨hx1, hacc1, hB.2, by simp only; omega⟩ (by simp only; omega) (lk_cons (congrArg some hnx) (lk_cons rfl (lk_cons rfl (lk_cons rfl (lk_cons rfl (lk_nil _)))))) (List.sublist_cons_self _ _)
  · simp only [decide_eq_false_iff_not] at hF0
    obtain ⟨T, hT⟩ : ∃ T, T = a % 1361129467683753853853498429727072845819 + polyS key := ⟨_, rfl⟩
    have hTT : polyTag key xs = tagB T := by
      have hxl := hx0.length
      have e : partsOf xs = k := by unfold partsOf; omega
      rw [polyTag, e, hT, hacc]
    refine Tr.exit ?_
    refine Tr.thenX ?_
    refine Tr.thenX ?_
    refine Tr.inHit ?_
    refine Tr.thenN ?_
    refine Tr.seq ?_
    refine Tr.regionD [0, 1, 0, 7, 0, 31, 63, 127, 255] [8] (.soft 0 (.soft 1 (.pure 2 (.soft 3 (.pure 4 (.soft 5 (.pure 6 (.soft 7 (.hard 8 .done))))))))) mixed (by kernel_rfl) ?_
    refine TrP.soft rfl (V.loadN (cs := (nat3 a).map U64) Tryd.isAgg82 Tryd.sizeOf82 rfl (V.cellsB (by repeat (first | exact List.Mem.head _ | apply List.Mem.tail)))) rfl ?_
    refine TrP.call rfl (args1 rfl) Tryd.call53 rfl (fun w1 hw => least_any a w1 (by omega)) ?_
    refine TrP.pure rfl (fun _ => V.sliceW Tryd.runUnderlying23 Tryd.sizeOf5 rfl) rfl ?_
    refine TrP.call rfl (args2 rfl rfl) Tryd.call49 rfl (fun w1 hw => half_any (some ⟨g2, 0, none⟩) 32 32 16 key w1 ((RdP.all (by repeat (first | exact List.Mem.head _ | apply List.Mem.tail))).now hw) hk (by omega) (by omega)) ?_
    refine TrP.pure rfl (fun _ => V.sliceW Tryd.runUnderlying23 Tryd.sizeOf5 rfl) rfl ?_
    refine TrP.call rfl (args2 rfl rfl) Tryd.call49 rfl (fun w1 hw => half_any (some ⟨g2, 0, none⟩) 32 32 24 key w1 ((RdP.all (by repeat (first | exact List.Mem.head _ | apply List.Mem.tail))).now hw) hk (by omega) (by omega)) ?_
    refine TrP.pure rfl (fun _ => (V.buildA (vs := [(0, U64 (getW false key 16 8)), (1, U64 (getW false key 24 8))]) (cs := ([getW false key 16 8, getW false key 24 8, 0#64].map U64).toArray) Tryd.runUnderlying82 Tryd.sizeOf53 Tryd.zeroValue82 (fun a he => by simp [he.eval (x := .tmp 31) (v := U64 (getW false key 16 8)) rfl, he.eval (x := .tmp 33) (v := U64 (getW false key 24 8)) rfl]) rfl)) rfl ?_
    refine TrP.call rfl (args2 rfl rfl) Tryd.call51 rfl (fun w1 hw => by rw [hS3]; have h := plus_nat (a % 1361129467683753853853498429727072845819) (polyS key) w1 (by omega) (by omega); rw [← hT, Nat.mod_eq_of_lt (show T < 6277101735386680763835789423207666416102355444464034512896 by omega)] at h; exact h) ?_
    refine TrP.hard rfl (W.storeAll (vs := (nat3 T).map U64) (cs := (nat3 a).map U64) Tryd.sizeOf82 rfl rfl rfl rfl (one64 _) (by repeat (first | exact Upd.head | apply Upd.tail)) ?_)
    refine Tr.pTail rfl ?_
    refine TrP.done ?_
    refine Tr.thenN ?_
    refine Tr.seq ?_
    refine Tr.regionD [0, 0, 2, 6, 0, 16, 62, 127] [7] (.pure 0 (.pure 1 (.soft 2 (.pure 4 (.soft 5 (.hard 3 (.hard 6 (.hard 7 .done)))))))) mixed (by kernel_rfl) ?_
    refine TrP.pure rfl (fun _ => V.sliceW Tryd.runUnderlying61 Tryd.sizeOf5 rfl) rfl ?_
    refine TrP.pure rfl (fun _ => V.idxA (j := 0) (o' := 0) Tryd.runUnderlying82 Tryd.sizeOf53 rfl rfl rfl (by omega) rfl) rfl ?_
    refine TrP.soft rfl (V.load1 Tryd.isAgg53 rfl (V.cellB (by repeat (first | exact List.Mem.head _ | apply List.Mem.tail)) (getU (nat3 T) 0 (show 0 < 3 by decide)))) rfl ?_
    refine TrP.pure rfl (fun _ => V.idxA (j := 1) (o' := 1) Tryd.runUnderlying82 Tryd.sizeOf53 rfl rfl rfl (by omega) rfl) rfl ?_
    refine TrP.soft rfl (V.load1 Tryd.isAgg53 rfl (V.cellB (by repeat (first | exact List.Mem.head _ | apply List.Mem.tail)) (getU (nat3 T) 1 (show 1 < 3 by decide)))) rfl ?_
    refine TrP.hard rfl (W.call (val := fun x : Nat × Nat × List Value => .slice (some ⟨x.1, 0, none⟩) 8 x.2.1) (N := fun x => [⟨x.1, 5, (putL (BitVec.ofNat 64 T) 8).map U8 ++ x.2.2⟩]) (Px := fun _ => True)  (args4 rfl rfl rfl rfl) Tryd.call25 rfl (fun w1 hw => by have h := put_nil 8 (BitVec.ofNat 64 T) false w1 (by decide); rw [show effI 8 = 8 from by decide] at h; exact h.mono fun _ _ ⟨x, h⟩ => ⟨x, h.1, h.2.1, trivial⟩) fun y _ => ?_)
    refine Tr.pOn (by first | exact List.Sublist.refl _ | exact List.sublist_cons_self _ _ | exact List.sublist_append_right _ _ | simp) ?_
    refine TrP.hard rfl (W.call (val := fun x : Nat × Nat × List Value => .slice (some ⟨x.1, 0, none⟩) 16 x.2.1) (N := fun x => [⟨x.1, 5, (tagB T).map U8 ++ x.2.2⟩]) (Px := fun _ => True)  (args4 rfl rfl rfl rfl) Tryd.call25 rfl (fun w1 hw => by have h := put_any (some ⟨y.1, 0, none⟩) 8 y.2.1 (putL (BitVec.ofNat 64 T) 8) 8 (BitVec.ofNat 64 (T / 18446744073709551616)) false w1 ((RdP.headL (List.Mem.head _)).now hw) (putL_len _ _) (fun h => by cases h) (by omega) (.inl rfl); unfold PutOut at h; rw [show effI 8 = 8 from by decide] at h; exact h.mono fun _ _ ⟨x, h⟩ => ⟨x, h.1, h.2.1, trivial⟩) fun y2 _ => ?_)
    refine Tr.pOn (by first | exact List.Sublist.refl _ | exact List.sublist_cons_self _ _ | exact List.sublist_append_right _ _ | simp) ?_
    refine TrP.hard rfl (W.copy (d := 43) (q := 16) (cs := (List.replicate 16 0#8).map U8) (vs := (tagB T).map U8) (cs' := (tagB T).map U8) elem27 rfl rfl (RdP.headL (List.Mem.head _)) (by rw [List.length_map, tagB_len]) (one8 _) rfl (by repeat (first | exact Upd.head | apply Upd.tail)) (by rw [List.length_map, List.length_replicate]; omega) (by rw [List.take_zero, List.nil_append, List.take_of_length_le (by rw [List.length_map, tagB_len]; omega), List.drop_eq_nil_of_le (by rw [List.length_map, List.length_replicate]; omega), List.append_nil]) (.inr ⟨rfl, rfl⟩) rfl ?_)
    refine Tr.pTail rfl ?_
    refine TrP.done ?_
    refine Tr.thenN ?_
    refine Tr.seq ?_
    refine Tr.region ?_
    refine Tr.val (V.loadN (cs := (tagB T).map U8) Tryd.isAgg61 (by rw [List.length_map, tagB_len]; exact Tryd.sizeOf61) rfl (V.cellsB (by repeat (first | exact List.Mem.head _ | apply List.Mem.tail)))) rfl ?_
    refine Tr.op (W.storeAll (vs := (tagB T).map U8) (cs := (tagB T).map U8) Tryd.sizeOf61 rfl rfl (by rw [List.length_map, tagB_len]) (by rw [List.length_map, tagB_len]) (one8 _) (by repeat (first | exact Upd.head | apply Upd.tail)) ?_)
    refine Tr.lNil ?_
    refine Tr.thenN ?_
    refine Tr.ret ?_
    refine Tr.out1 rfl (Res.cellN (cs := (tagB T).map U8) rfl Tryd.isAgg61 (by rw [List.length_map, tagB_len]; exact Tryd.sizeOf61) (by repeat (first | exact List.Mem.head _ | apply List.Mem.tail))) fun w hw => ?_
    exact ⟨by rw [hTT], hw.sub (List.nil_sublist _)⟩

end Go.Proofs.YtnhfmmohdiccgaaDoor
