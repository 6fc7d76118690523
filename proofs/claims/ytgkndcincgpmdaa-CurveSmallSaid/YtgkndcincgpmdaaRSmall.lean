/-
  hatchwaylaw08.CurveSmall returns true, whatever its arguments. (Printed by a program of this session over its walk printer.)
-/
import Derived.Test.YtgkndcincgpmdaaChecked
import Derived.Test.YtgkndcincgpmdaaRows
import Derived.Test.YtgkndcincgpmdaaLaw8
import Derived.Test.YtgkndcincgpmdaaPlainSmall
namespace Go.Proofs.Ytgkndcincgpmdaa
open Go.Sym Plain
set_option linter.unusedVariables false
set_option maxRecDepth 20000

theorem curveSmall_run (k : List (BitVec 8)) (x : Int) (w : World) (hk : k.length = 32) :
    Calls Try.prog 8 [.agg (k.map U8).toArray, .int .i64 x].toArray w fun r w' => r = .returned (.bool true) ∧ Hp w [] [] w' := by
  obtain ⟨e, he⟩ : ∃ e : Nat, x % (2 ^ 16 : Nat) = (e : Int) := ⟨(x % (2 ^ 16 : Nat)).toNat, by omega⟩
  obtain ⟨nn, hnn⟩ : ∃ nn, nn = e % 5 := ⟨_, rfl⟩
  have hn5 : nn < 5 := by omega
  refine Tr.enter Try.func8 rfl Try.ntmps8 rfl (Hp.refl w) ?_
  refine Tr.seq ?_
  refine Tr.region ?_
  refine Tr.op (W.box (cs := k.map U8) rfl rfl rfl fun g2 => ?_)
  refine Tr.val (V.assign rfl) rfl ?_
  refine Tr.lNil ?_
  refine Tr.thenN ?_
  refine Tr.seq ?_
  refine Tr.region ?_
  refine Tr.op (W.call1 (args0) Try.call11 rfl (fun w1 _ => shown8_true w1) ?_)
  refine Tr.val (V.assign rfl) rfl ?_
  refine Tr.lNil ?_
  refine Tr.thenN ?_
  refine Tr.seq ?_
  refine Tr.region ?_
  refine Tr.op (W.alloc (cs := (ffTo 1).map U8) Try.zeroValue23 rfl rfl fun g6 => ?_)
  refine Tr.lNil ?_
  refine Tr.thenN ?_
  refine Tr.seq ?_
  refine Tr.seq ?_
  refine Tr.region ?_
  refine Tr.val (V.assign rfl) rfl ?_
  refine Tr.lNil ?_
  refine Tr.thenN ?_
  refine Tr.block ?_
  refine Tr.loop (ι := Nat) (fun i => 1 ≤ i ∧ i ≤ 31) (fun i => [(1, .int .i64 x), (2, .pointer (some ⟨g2, 0, none⟩)), (5, .bool true), (6, .pointer (some ⟨g6, 0, none⟩)), (7, NV i)]) (fun i => [⟨g6, 23, (ffTo i).map U8⟩, ⟨g2, 23, k.map U8⟩]) (fun i => 31 - i) 1 ⟨Nat.le_refl _, by decide⟩ (lk_cons rfl (lk_cons rfl (lk_cons rfl (lk_cons rfl (lk_cons rfl (lk_nil _)))))) (List.Sublist.refl _) fun i hI => ?_
  obtain ⟨hi1, hi2⟩ := hI
  refine Tr.seq ?_
  refine Tr.seq ?_
  refine Tr.region ?_
  refine Tr.val (V.move rfl) rfl ?_
  refine Tr.val (V.lss rfl rfl rfl) rfl ?_
  refine Tr.lNil ?_
  refine Tr.thenN ?_
  refine Tr.cond rfl (fun hT0 => ?_) (fun hF0 => ?_)
  · simp only [decide_eq_true_eq] at hT0
    have hlt : i < 31 := by omega
    refine Tr.skip ?_
    refine Tr.thenN ?_
    refine Tr.seq ?_
    refine Tr.block ?_
    refine Tr.region ?_
    refine Tr.val (V.move rfl) rfl ?_
    refine Tr.val (V.idxA (j := i) (o' := i) Try.runUnderlying23 Try.sizeOf5 rfl rfl (by omega) (by omega) (by omega)) rfl ?_
    refine Tr.op (W.store1E (cs := (ffTo i).map U8) (v := U8 255#8) (cs' := (ffTo (i + 1)).map U8) Try.sizeOf5 rfl rfl rfl rfl (by rw [← ffTo_set i hi1 hlt, List.map_set]) (by repeat (first | exact Upd.head | apply Upd.tail)) (by rw [List.length_map, ffTo_len i hi1 (by omega)]; omega) ?_)
    refine Tr.lNil ?_
    refine Tr.inN ?_
    refine Tr.thenN ?_
    refine Tr.region ?_
    refine Tr.val (V.move rfl) rfl ?_
    refine Tr.val (V.addN (b := 1) rfl rfl (by omega)) rfl ?_
    refine Tr.val (V.assign rfl) rfl ?_
    refine Tr.lNil ?_
    exact Tr.again (i + 1) ⟨by omega, by omega⟩ (by omega) (lk_cons rfl (lk_cons rfl (lk_cons rfl (lk_cons rfl (lk_cons rfl (lk_nil _)))))) (List.Sublist.refl _)
  · simp only [decide_eq_false_iff_not] at hF0
    obtain rfl : i = 31 := by omega
    refine Tr.exit ?_
    refine Tr.thenX ?_
    refine Tr.thenX ?_
    refine Tr.inHit ?_
    refine Tr.thenN ?_
    refine Tr.seq ?_
    refine Tr.region ?_
    refine Tr.val (V.idxA (j := 31) (o' := 31) Try.runUnderlying23 Try.sizeOf5 rfl rfl rfl (by omega) rfl) rfl ?_
    refine Tr.op (W.store1E (cs := (ffTo 31).map U8) (v := U8 127#8) (cs' := ffTop.map U8) Try.sizeOf5 rfl rfl rfl rfl (by rw [ffTop, List.map_set]) (by repeat (first | exact Upd.head | apply Upd.tail)) (by decide) ?_)
    refine Tr.lNil ?_
    refine Tr.thenN ?_
    refine Tr.seq ?_
    refine Tr.seq ?_
    refine Tr.region ?_
    refine Tr.val (V.move rfl) rfl ?_
    refine Tr.val ((by rw [← he]; exact V.mask (k := 16) rfl rfl (by decide) : VOp Try.prog _ _ _ _ _ _ _ (.int .i64 (e : Int)))) rfl ?_
    refine Tr.val ((by rw [hnn]; exact V.remN (b := 5) rfl rfl (by omega) : VOp Try.prog _ _ _ _ _ _ _ (NV nn))) rfl ?_
    refine Tr.lNil ?_
    refine Tr.thenN ?_
    refine Tr.block ?_
    refine Tr.seq ?_
    refine Tr.region ?_
    refine Tr.val (V.eql rfl rfl rfl) rfl ?_
    refine Tr.val (V.assign rfl) rfl ?_
    refine Tr.lNil ?_
    refine Tr.thenN ?_
    refine Tr.cond rfl (fun hT1 => ?_) (fun hF1 => ?_)
    · simp only [decide_eq_true_eq] at hT1
      obtain ⟨v, hv⟩ : ∃ v, v = zeroK := ⟨_, rfl⟩
      have hvl : v.length = 32 := by rw [hv]; rfl
      have hvz : multL k v = zeroK := by rw [hv]; exact small_0 k hk
      refine Tr.region ?_
      refine Tr.val ((V.buildA (vs := []) (cs := (v.map U8).toArray) Try.runUnderlying23 Try.sizeOf5 Try.zeroValue23 (fun a he => by simp [Act.eval]) (by rw [hv]; rfl))) rfl ?_
      refine Tr.op (W.storeAll (vs := v.map U8) (cs := ffTop.map U8) Try.sizeOf23 rfl rfl (by rw [List.length_map, hvl]) (by rw [List.length_map]; rfl) (one8 _) (by repeat (first | exact Upd.head | apply Upd.tail)) ?_)
      refine Tr.lNil ?_
      refine Tr.inN ?_
      refine Tr.thenN ?_
      refine Tr.seq ?_
      refine Tr.region ?_
      refine Tr.val (V.loadN (cs := k.map U8) Try.isAgg23 (by rw [List.length_map, hk]; exact Try.sizeOf23) rfl (V.cellsB (by repeat (first | exact List.Mem.head _ | apply List.Mem.tail)))) rfl ?_
      refine Tr.val (V.loadN (cs := v.map U8) Try.isAgg23 (by rw [List.length_map, hvl]; exact Try.sizeOf23) rfl (V.cellsB (by repeat (first | exact List.Mem.head _ | apply List.Mem.tail)))) rfl ?_
      refine Tr.op (W.call1 (args2 rfl rfl) Try.call13 rfl (fun w1 _ => by have h := shared_any k v w1 hk hvl; rw [hvz, if_pos rfl] at h; exact h) ?_)
      refine Tr.val (V.move rfl) rfl ?_
      refine Tr.val (V.extract rfl rfl) rfl ?_
      refine Tr.val (V.extract rfl rfl) rfl ?_
      refine Tr.op (W.alloc (cs := (List.replicate 32 0#8).map U8) Try.zeroValue23 rfl rfl fun g8 => ?_)
      refine Tr.op (W.storeAll (vs := zeroK.map U8) (cs := (List.replicate 32 0#8).map U8) Try.sizeOf23 rfl rfl (by rw [List.length_map, show zeroK.length = 32 from rfl]) rfl (one8 _) (by repeat (first | exact Upd.head | apply Upd.tail)) ?_)
      refine Tr.val (V.assign rfl) rfl ?_
      refine Tr.lNil ?_
      refine Tr.thenN ?_
      refine Tr.seq ?_
      refine Tr.region ?_
      refine Tr.val (V.move rfl) rfl ?_
      refine Tr.val (V.move rfl) rfl ?_
      refine Tr.valG rfl (V.loadN (cs := zeroK.map U8) Try.isAgg23 (by rw [List.length_map, show zeroK.length = 32 from rfl]; exact Try.sizeOf23) rfl (V.cellsB (by repeat (first | exact List.Mem.head _ | apply List.Mem.tail)))) rfl ?_
      refine Tr.valG rfl ((V.buildA (vs := []) (cs := (zeroK.map U8).toArray) Try.runUnderlying23 Try.sizeOf5 Try.zeroValue23 (fun a he => by simp [Act.eval]) rfl)) rfl ?_
      refine Tr.valG rfl (V.eqlA (b := true) arr23 rfl rfl (show zeroK.length = 32 from rfl) (show zeroK.length = 32 from rfl) (decide_eq_true rfl)) rfl ?_
      refine Tr.val (V.pick rfl rfl) rfl ?_
      refine Tr.val (V.move rfl) rfl ?_
      refine Tr.valG rfl (V.move rfl) rfl ?_
      refine Tr.valG rfl (V.eql rfl rfl rfl) rfl ?_
      refine Tr.val (V.pick rfl rfl) rfl ?_
      refine Tr.val (V.assign rfl) rfl ?_
      refine Tr.lNil ?_
      refine Tr.thenN ?_
      refine Tr.ret ?_
      refine Tr.out1 rfl (Res.tmp rfl) fun w hw => ?_
      exact ⟨rfl, hw.sub (List.nil_sublist _)⟩
    · simp only [decide_eq_false_iff_not] at hF1
      refine Tr.seq ?_
      refine Tr.region ?_
      refine Tr.val (V.eql rfl rfl rfl) rfl ?_
      refine Tr.val (V.assign rfl) rfl ?_
      refine Tr.lNil ?_
      refine Tr.thenN ?_
      refine Tr.cond rfl (fun hT2 => ?_) (fun hF2 => ?_)
      · simp only [decide_eq_true_eq] at hT2
        obtain ⟨v, hv⟩ : ∃ v, v = k1B := ⟨_, rfl⟩
        have hvl : v.length = 32 := by rw [hv]; rfl
        have hvz : multL k v = zeroK := by rw [hv]; exact small_1 k hk
        refine Tr.region ?_
        refine Tr.val ((V.buildA (vs := [(0, U8 1#8)]) (cs := (v.map U8).toArray) Try.runUnderlying23 Try.sizeOf5 Try.zeroValue23 (fun a he => by simp [Act.eval]) (by rw [hv]; rfl))) rfl ?_
        refine Tr.op (W.storeAll (vs := v.map U8) (cs := ffTop.map U8) Try.sizeOf23 rfl rfl (by rw [List.length_map, hvl]) (by rw [List.length_map]; rfl) (one8 _) (by repeat (first | exact Upd.head | apply Upd.tail)) ?_)
        refine Tr.lNil ?_
        refine Tr.inN ?_
        refine Tr.thenN ?_
        refine Tr.seq ?_
        refine Tr.region ?_
        refine Tr.val (V.loadN (cs := k.map U8) Try.isAgg23 (by rw [List.length_map, hk]; exact Try.sizeOf23) rfl (V.cellsB (by repeat (first | exact List.Mem.head _ | apply List.Mem.tail)))) rfl ?_
        refine Tr.val (V.loadN (cs := v.map U8) Try.isAgg23 (by rw [List.length_map, hvl]; exact Try.sizeOf23) rfl (V.cellsB (by repeat (first | exact List.Mem.head _ | apply List.Mem.tail)))) rfl ?_
        refine Tr.op (W.call1 (args2 rfl rfl) Try.call13 rfl (fun w1 _ => by have h := shared_any k v w1 hk hvl; rw [hvz, if_pos rfl] at h; exact h) ?_)
        refine Tr.val (V.move rfl) rfl ?_
        refine Tr.val (V.extract rfl rfl) rfl ?_
        refine Tr.val (V.extract rfl rfl) rfl ?_
        refine Tr.op (W.alloc (cs := (List.replicate 32 0#8).map U8) Try.zeroValue23 rfl rfl fun g8 => ?_)
        refine Tr.op (W.storeAll (vs := zeroK.map U8) (cs := (List.replicate 32 0#8).map U8) Try.sizeOf23 rfl rfl (by rw [List.length_map, show zeroK.length = 32 from rfl]) rfl (one8 _) (by repeat (first | exact Upd.head | apply Upd.tail)) ?_)
        refine Tr.val (V.assign rfl) rfl ?_
        refine Tr.lNil ?_
        refine Tr.thenN ?_
        refine Tr.seq ?_
        refine Tr.region ?_
        refine Tr.val (V.move rfl) rfl ?_
        refine Tr.val (V.move rfl) rfl ?_
        refine Tr.valG rfl (V.loadN (cs := zeroK.map U8) Try.isAgg23 (by rw [List.length_map, show zeroK.length = 32 from rfl]; exact Try.sizeOf23) rfl (V.cellsB (by repeat (first | exact List.Mem.head _ | apply List.Mem.tail)))) rfl ?_
        refine Tr.valG rfl ((V.buildA (vs := []) (cs := (zeroK.map U8).toArray) Try.runUnderlying23 Try.sizeOf5 Try.zeroValue23 (fun a he => by simp [Act.eval]) rfl)) rfl ?_
        refine Tr.valG rfl (V.eqlA (b := true) arr23 rfl rfl (show zeroK.length = 32 from rfl) (show zeroK.length = 32 from rfl) (decide_eq_true rfl)) rfl ?_
        refine Tr.val (V.pick rfl rfl) rfl ?_
        refine Tr.val (V.move rfl) rfl ?_
        refine Tr.valG rfl (V.move rfl) rfl ?_
        refine Tr.valG rfl (V.eql rfl rfl rfl) rfl ?_
        refine Tr.val (V.pick rfl rfl) rfl ?_
        refine Tr.val (V.assign rfl) rfl ?_
        refine Tr.lNil ?_
        refine Tr.thenN ?_
        refine Tr.ret ?_
        refine Tr.out1 rfl (Res.tmp rfl) fun w hw => ?_
        exact ⟨rfl, hw.sub (List.nil_sublist _)⟩
      · simp only [decide_eq_false_iff_not] at hF2
        refine Tr.seq ?_
        refine Tr.region ?_
        refine Tr.val (V.eql rfl rfl rfl) rfl ?_
        refine Tr.val (V.assign rfl) rfl ?_
        refine Tr.lNil ?_
        refine Tr.thenN ?_
        refine Tr.cond rfl (fun hT3 => ?_) (fun hF3 => ?_)
        · simp only [decide_eq_true_eq] at hT3
          obtain ⟨v, hv⟩ : ∃ v, v = ffTop.set 0 236#8 := ⟨_, rfl⟩
          have hvl : v.length = 32 := by rw [hv]; rfl
          have hvz : multL k v = zeroK := by rw [hv]; exact small_2 k hk
          refine Tr.region ?_
          refine Tr.val (V.idxA (j := 0) (o' := 0) Try.runUnderlying23 Try.sizeOf5 rfl rfl rfl (by omega) rfl) rfl ?_
          refine Tr.op (W.store1E (cs := ffTop.map U8) (v := U8 236#8) (cs' := v.map U8) Try.sizeOf5 rfl rfl rfl rfl (by rw [hv, List.map_set]) (by repeat (first | exact Upd.head | apply Upd.tail)) (by rw [List.length_map]; decide) ?_)
          refine Tr.lNil ?_
          refine Tr.inN ?_
          refine Tr.thenN ?_
          refine Tr.seq ?_
          refine Tr.region ?_
          refine Tr.val (V.loadN (cs := k.map U8) Try.isAgg23 (by rw [List.length_map, hk]; exact Try.sizeOf23) rfl (V.cellsB (by repeat (first | exact List.Mem.head _ | apply List.Mem.tail)))) rfl ?_
          refine Tr.val (V.loadN (cs := v.map U8) Try.isAgg23 (by rw [List.length_map, hvl]; exact Try.sizeOf23) rfl (V.cellsB (by repeat (first | exact List.Mem.head _ | apply List.Mem.tail)))) rfl ?_
          refine Tr.op (W.call1 (args2 rfl rfl) Try.call13 rfl (fun w1 _ => by have h := shared_any k v w1 hk hvl; rw [hvz, if_pos rfl] at h; exact h) ?_)
          refine Tr.val (V.move rfl) rfl ?_
          refine Tr.val (V.extract rfl rfl) rfl ?_
          refine Tr.val (V.extract rfl rfl) rfl ?_
          refine Tr.op (W.alloc (cs := (List.replicate 32 0#8).map U8) Try.zeroValue23 rfl rfl fun g8 => ?_)
          refine Tr.op (W.storeAll (vs := zeroK.map U8) (cs := (List.replicate 32 0#8).map U8) Try.sizeOf23 rfl rfl (by rw [List.length_map, show zeroK.length = 32 from rfl]) rfl (one8 _) (by repeat (first | exact Upd.head | apply Upd.tail)) ?_)
          refine Tr.val (V.assign rfl) rfl ?_
          refine Tr.lNil ?_
          refine Tr.thenN ?_
          refine Tr.seq ?_
          refine Tr.region ?_
          refine Tr.val (V.move rfl) rfl ?_
          refine Tr.val (V.move rfl) rfl ?_
          refine Tr.valG rfl (V.loadN (cs := zeroK.map U8) Try.isAgg23 (by rw [List.length_map, show zeroK.length = 32 from rfl]; exact Try.sizeOf23) rfl (V.cellsB (by repeat (first | exact List.Mem.head _ | apply List.Mem.tail)))) rfl ?_
          refine Tr.valG rfl ((V.buildA (vs := []) (cs := (zeroK.map U8).toArray) Try.runUnderlying23 Try.sizeOf5 Try.zeroValue23 (fun a he => by simp [Act.eval]) rfl)) rfl ?_
          refine Tr.valG rfl (V.eqlA (b := true) arr23 rfl rfl (show zeroK.length = 32 from rfl) (show zeroK.length = 32 from rfl) (decide_eq_true rfl)) rfl ?_
          refine Tr.val (V.pick rfl rfl) rfl ?_
          refine Tr.val (V.move rfl) rfl ?_
          refine Tr.valG rfl (V.move rfl) rfl ?_
          refine Tr.valG rfl (V.eql rfl rfl rfl) rfl ?_
          refine Tr.val (V.pick rfl rfl) rfl ?_
          refine Tr.val (V.assign rfl) rfl ?_
          refine Tr.lNil ?_
          refine Tr.thenN ?_
          refine Tr.ret ?_
          refine Tr.out1 rfl (Res.tmp rfl) fun w hw => ?_
          exact ⟨rfl, hw.sub (List.nil_sublist _)⟩
        · simp only [decide_eq_false_iff_not] at hF3
          refine Tr.seq ?_
          refine Tr.region ?_
          refine Tr.val (V.eql rfl rfl rfl) rfl ?_
          refine Tr.val (V.assign rfl) rfl ?_
          refine Tr.lNil ?_
          refine Tr.thenN ?_
          refine Tr.cond rfl (fun hT4 => ?_) (fun hF4 => ?_)
          · simp only [decide_eq_true_eq] at hT4
            obtain ⟨v, hv⟩ : ∃ v, v = ffTop.set 0 237#8 := ⟨_, rfl⟩
            have hvl : v.length = 32 := by rw [hv]; rfl
            have hvz : multL k v = zeroK := by rw [hv]; exact small_3 k hk
            refine Tr.region ?_
            refine Tr.val (V.idxA (j := 0) (o' := 0) Try.runUnderlying23 Try.sizeOf5 rfl rfl rfl (by omega) rfl) rfl ?_
            refine Tr.op (W.store1E (cs := ffTop.map U8) (v := U8 237#8) (cs' := v.map U8) Try.sizeOf5 rfl rfl rfl rfl (by rw [hv, List.map_set]) (by repeat (first | exact Upd.head | apply Upd.tail)) (by rw [List.length_map]; decide) ?_)
            refine Tr.lNil ?_
            refine Tr.inN ?_
            refine Tr.thenN ?_
            refine Tr.seq ?_
            refine Tr.region ?_
            refine Tr.val (V.loadN (cs := k.map U8) Try.isAgg23 (by rw [List.length_map, hk]; exact Try.sizeOf23) rfl (V.cellsB (by repeat (first | exact List.Mem.head _ | apply List.Mem.tail)))) rfl ?_
            refine Tr.val (V.loadN (cs := v.map U8) Try.isAgg23 (by rw [List.length_map, hvl]; exact Try.sizeOf23) rfl (V.cellsB (by repeat (first | exact List.Mem.head _ | apply List.Mem.tail)))) rfl ?_
            refine Tr.op (W.call1 (args2 rfl rfl) Try.call13 rfl (fun w1 _ => by have h := shared_any k v w1 hk hvl; rw [hvz, if_pos rfl] at h; exact h) ?_)
            refine Tr.val (V.move rfl) rfl ?_
            refine Tr.val (V.extract rfl rfl) rfl ?_
            refine Tr.val (V.extract rfl rfl) rfl ?_
            refine Tr.op (W.alloc (cs := (List.replicate 32 0#8).map U8) Try.zeroValue23 rfl rfl fun g8 => ?_)
            refine Tr.op (W.storeAll (vs := zeroK.map U8) (cs := (List.replicate 32 0#8).map U8) Try.sizeOf23 rfl rfl (by rw [List.length_map, show zeroK.length = 32 from rfl]) rfl (one8 _) (by repeat (first | exact Upd.head | apply Upd.tail)) ?_)
            refine Tr.val (V.assign rfl) rfl ?_
            refine Tr.lNil ?_
            refine Tr.thenN ?_
            refine Tr.seq ?_
            refine Tr.region ?_
            refine Tr.val (V.move rfl) rfl ?_
            refine Tr.val (V.move rfl) rfl ?_
            refine Tr.valG rfl (V.loadN (cs := zeroK.map U8) Try.isAgg23 (by rw [List.length_map, show zeroK.length = 32 from rfl]; exact Try.sizeOf23) rfl (V.cellsB (by repeat (first | exact List.Mem.head _ | apply List.Mem.tail)))) rfl ?_
            refine Tr.valG rfl ((V.buildA (vs := []) (cs := (zeroK.map U8).toArray) Try.runUnderlying23 Try.sizeOf5 Try.zeroValue23 (fun a he => by simp [Act.eval]) rfl)) rfl ?_
            refine Tr.valG rfl (V.eqlA (b := true) arr23 rfl rfl (show zeroK.length = 32 from rfl) (show zeroK.length = 32 from rfl) (decide_eq_true rfl)) rfl ?_
            refine Tr.val (V.pick rfl rfl) rfl ?_
            refine Tr.val (V.move rfl) rfl ?_
            refine Tr.valG rfl (V.move rfl) rfl ?_
            refine Tr.valG rfl (V.eql rfl rfl rfl) rfl ?_
            refine Tr.val (V.pick rfl rfl) rfl ?_
            refine Tr.val (V.assign rfl) rfl ?_
            refine Tr.lNil ?_
            refine Tr.thenN ?_
            refine Tr.ret ?_
            refine Tr.out1 rfl (Res.tmp rfl) fun w hw => ?_
            exact ⟨rfl, hw.sub (List.nil_sublist _)⟩
          · simp only [decide_eq_false_iff_not] at hF4
            refine Tr.seq ?_
            refine Tr.region ?_
            refine Tr.val (V.eql rfl rfl rfl) rfl ?_
            refine Tr.val (V.assign rfl) rfl ?_
            refine Tr.lNil ?_
            refine Tr.thenN ?_
            refine Tr.cond rfl (fun hT5 => ?_) (fun hF5 => ?_)
            · simp only [decide_eq_true_eq] at hT5
              obtain ⟨v, hv⟩ : ∃ v, v = ffTop.set 0 238#8 := ⟨_, rfl⟩
              have hvl : v.length = 32 := by rw [hv]; rfl
              have hvz : multL k v = zeroK := by rw [hv]; exact small_4 k hk
              refine Tr.region ?_
              refine Tr.val (V.idxA (j := 0) (o' := 0) Try.runUnderlying23 Try.sizeOf5 rfl rfl rfl (by omega) rfl) rfl ?_
              refine Tr.op (W.store1E (cs := ffTop.map U8) (v := U8 238#8) (cs' := v.map U8) Try.sizeOf5 rfl rfl rfl rfl (by rw [hv, List.map_set]) (by repeat (first | exact Upd.head | apply Upd.tail)) (by rw [List.length_map]; decide) ?_)
              refine Tr.lNil ?_
              refine Tr.inN ?_
              refine Tr.thenN ?_
              refine Tr.seq ?_
              refine Tr.region ?_
              refine Tr.val (V.loadN (cs := k.map U8) Try.isAgg23 (by rw [List.length_map, hk]; exact Try.sizeOf23) rfl (V.cellsB (by repeat (first | exact List.Mem.head _ | apply List.Mem.tail)))) rfl ?_
              refine Tr.val (V.loadN (cs := v.map U8) Try.isAgg23 (by rw [List.length_map, hvl]; exact Try.sizeOf23) rfl (V.cellsB (by repeat (first | exact List.Mem.head _ | apply List.Mem.tail)))) rfl ?_
              refine Tr.op (W.call1 (args2 rfl rfl) Try.call13 rfl (fun w1 _ => by have h := shared_any k v w1 hk hvl; rw [hvz, if_pos rfl] at h; exact h) ?_)
              refine Tr.val (V.move rfl) rfl ?_
              refine Tr.val (V.extract rfl rfl) rfl ?_
              refine Tr.val (V.extract rfl rfl) rfl ?_
              refine Tr.op (W.alloc (cs := (List.replicate 32 0#8).map U8) Try.zeroValue23 rfl rfl fun g8 => ?_)
              refine Tr.op (W.storeAll (vs := zeroK.map U8) (cs := (List.replicate 32 0#8).map U8) Try.sizeOf23 rfl rfl (by rw [List.length_map, show zeroK.length = 32 from rfl]) rfl (one8 _) (by repeat (first | exact Upd.head | apply Upd.tail)) ?_)
              refine Tr.val (V.assign rfl) rfl ?_
              refine Tr.lNil ?_
              refine Tr.thenN ?_
              refine Tr.seq ?_
              refine Tr.region ?_
              refine Tr.val (V.move rfl) rfl ?_
              refine Tr.val (V.move rfl) rfl ?_
              refine Tr.valG rfl (V.loadN (cs := zeroK.map U8) Try.isAgg23 (by rw [List.length_map, show zeroK.length = 32 from rfl]; exact Try.sizeOf23) rfl (V.cellsB (by repeat (first | exact List.Mem.head _ | apply List.Mem.tail)))) rfl ?_
              refine Tr.valG rfl ((V.buildA (vs := []) (cs := (zeroK.map U8).toArray) Try.runUnderlying23 Try.sizeOf5 Try.zeroValue23 (fun a he => by simp [Act.eval]) rfl)) rfl ?_
              refine Tr.valG rfl (V.eqlA (b := true) arr23 rfl rfl (show zeroK.length = 32 from rfl) (show zeroK.length = 32 from rfl) (decide_eq_true rfl)) rfl ?_
              refine Tr.val (V.pick rfl rfl) rfl ?_
              refine Tr.val (V.move rfl) rfl ?_
              refine Tr.valG rfl (V.move rfl) rfl ?_
              refine Tr.valG rfl (V.eql rfl rfl rfl) rfl ?_
              refine Tr.val (V.pick rfl rfl) rfl ?_
              refine Tr.val (V.assign rfl) rfl ?_
              refine Tr.lNil ?_
              refine Tr.thenN ?_
              refine Tr.ret ?_
              refine Tr.out1 rfl (Res.tmp rfl) fun w hw => ?_
              exact ⟨rfl, hw.sub (List.nil_sublist _)⟩
            · simp only [decide_eq_false_iff_not] at hF5
              exfalso
              omega

theorem curveSmall_walk (x0 : List (BitVec 8)) (a1 : Int) (w : World) (l0 : x0.length = 32) (w1 : (Lit.int .i64 a1).wf = true) :
    Calls Try.prog 8 #[.agg (x0.map U8).toArray, .int .i64 a1] w fun r w' => r = .returned (.bool true) ∧ Hp w [] [] w' := curveSmall_run x0 a1 w l0
namespace curveSmall
open Go.ChangeShapes Go.WideShapes Go.ChangeAt Go.RowKit Go.Sym
theorem own : ownKnob Try.prog.godebug = none := by kernel_rfl
theorem laidOut : laidOutB Try.prog = true := by kernel_rfl
set_option maxRecDepth 100000 in
theorem lifted (os : Os) (started : os.Started) (H : Type) (enc : TypeId × Value → H) :
    ReturnsInHanded {} Try.checked os 8 .any (Rows.curveSmallSpec.pre6 enc Try.prog Try.f8 Rows.curveSmallRow.domain false) (Rows.curveSmallSpec.post enc Try.prog Try.f8 false true false false) := by
  refine returnsInHanded_of_change (C := Try.checked) own started (by kernel_rfl) Try.func8
    (ChangeSpec.witness6 (enc := enc) (C := Try.checked) false ⟨#[], #[.agg #[.int .u8 0, .int .u8 0, .int .u8 0, .int .u8 0, .int .u8 0, .int .u8 0, .int .u8 0, .int .u8 0, .int .u8 0, .int .u8 0, .int .u8 0, .int .u8 0, .int .u8 0, .int .u8 0, .int .u8 0, .int .u8 0, .int .u8 0, .int .u8 0, .int .u8 0, .int .u8 0, .int .u8 0, .int .u8 0, .int .u8 0, .int .u8 0, .int .u8 0, .int .u8 0, .int .u8 0, .int .u8 0, .int .u8 0, .int .u8 0, .int .u8 0, .int .u8 0], .int .i64 0], []⟩ 8 (by kernel_rfl) (by kernel_rfl) (by kernel_rfl) (by kernel_rfl)) ?_
  intro W base args ds gs before hval0 hW hcnd _
  have hval : ∀ (j : Nat) t v, Try.f8.params[j]? = some t → args[j]? = some v → Value.okWide Try.prog W .any base t v := hval0
  have hW' := hW
  obtain ⟨p, q, hA0, hV, rfl, hfz, hnd⟩ := hW
  have hA : DataW.TrodAll enc Try.prog W 0 (fun _ => true) true Try.f8.params.toList args.toList ds p := hA0
  rw [Try.params8] at hA hval
  obtain ⟨v0, vs0, d0, ds0, p0, q0, hargs, rfl, rfl, h0, r0⟩ := trodAll_cons hA
  obtain ⟨v1, vs1, d1, ds1, p1, q1, rfl, rfl, rfl, h1, r1⟩ := trodAll_cons r0
  obtain ⟨rfl, rfl, rfl⟩ := trodAll_nil r1
  obtain rfl : args = #[v0, v1] := by cases args; simp_all
  obtain ⟨rfl, rfl⟩ := trodVars_none hV
  have k0 := h0
  have lt0 : ∀ x ∈ p0, x.block < W.heap.size := by obtain ⟨m, hm⟩ := k0; exact DataW.trod_lt m _ _ _ hm
  obtain ⟨x0, l0, rfl⟩ := open_bytesArr Try.underlying23 Try.underlying5 (by kernel_rfl) (by kernel_rfl) (hval 0 23 v0 rfl rfl) h0
  obtain ⟨a1, rfl, rfl, rfl, w1⟩ := open_int Try.underlying3 (hval 1 3 v1 rfl rfl) h1
  clear hA0 hval0
  refine (curveSmall_walk x0 a1 W l0 w1).mono fun e W' ⟨he, hp⟩ => ?_
  have bel : Below W.heap.size W W' := hp.below
  subst he
  exact ⟨_, rfl, _, _, _, [], _, [], hW', trodAll_mk1 (shut_bool Try.underlying4 _), (trodAll_cons_mk (Below.trod laidOut (by kernel_rfl) (of_decide_eq_true (by kernel_rfl)) k0 bel lt0) (trodAll_cons_mk (shut_int Try.underlying3 w1) trodAll_mk0)), rfl, bel.frame _, fun h => by cases h⟩
theorem over : Rows.curveSmallRow.holds Try.pinned (OpenSpec.ofChange Rows.curveSmallSpec) :=
  OpenClaim.holds_of_wide 8 Try.f8 rfl rfl rfl rfl rfl rfl rfl ⟨rfl, rfl, rfl, rfl, rfl⟩ rfl rfl rfl rfl rfl (by kernel_rfl) Try.func8 (by kernel_rfl)
    (of_decide_eq_true (by kernel_rfl)) (by unfold Func.isWrapper; first | (rw [if_pos (by decide +kernel)]; kernel_rfl) | (rw [if_neg (by decide +kernel)]; exact ⟨rfl, rfl⟩))
    (fun os started H enc _ => lifted os started H enc)
end curveSmall
/-- The statement. -/
theorem curveSmallProved : Rows.CurveSmallSaid := curveSmall.over
end Go.Proofs.Ytgkndcincgpmdaa
