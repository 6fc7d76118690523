/-
  Contracts of package aead: stream, tag; slices.Grow, Concat. (Printed by a program of this session over its walk printer.)
-/
import Derived.Test.YtnhfmmohdiccgaaDoorPlainAead
import Derived.Test.YtnhfmmohdiccgaaDoorSymM
import Derived.Test.YtnhfmmohdiccgaaDoorChachaB
import Derived.Test.YtnhfmmohdiccgaaDoorPolyB
namespace Go.Proofs.YtnhfmmohdiccgaaDoor
open Go.Sym Plain
set_option linter.unusedVariables false
set_option maxRecDepth 20000

theorem sstream_any (p : Option Addr) (m c : Nat) (key nonce b : List (BitVec 8)) (w : World) (hk : key.length = 32) (hn : nonce.length = 12) (hx : Bytes w p m c b) (hm : m ≤ 17592186044000) (hq0 : RdB w (some ⟨0, 0, none⟩) (qflat.map NV)) :
    Calls Tryd.prog 31 [.agg (key.map U8 ++ nonce.map U8).toArray, .slice p m c].toArray w fun r w' => ∃ x : Nat × Nat × List Value, r = .returned (.slice (some ⟨x.1, 0, none⟩) m x.2.1) ∧ Hp w [] [⟨x.1, 5, (streamL key 1#32 nonce b).map U8 ++ x.2.2⟩] w' ∧ ((streamL key 1#32 nonce b).map U8 ++ x.2.2).length = x.2.1 := by
  refine Tr.enter Tryd.func31 rfl Tryd.ntmps31 rfl (Hp.refl w) ?_
  refine Tr.seq ?_
  refine Tr.region ?_
  refine Tr.op (W.box (cs := (key.map U8 ++ nonce.map U8)) rfl rfl rfl fun g2 => ?_)
  refine Tr.val (V.assign rfl) rfl ?_
  refine Tr.lNil ?_
  refine Tr.thenN ?_
  refine Tr.seq ?_
  refine Tr.region ?_
  refine Tr.val (V.fieldS (o' := 0) Tryd.runUnderlying59 rfl rfl Tryd.sizeOf23 (by omega) rfl) rfl ?_
  refine Tr.val (V.loadN (cs := key.map U8) Tryd.isAgg23 (by rw [List.length_map, hk]; exact Tryd.sizeOf23) rfl (V.cellsO (pre := []) (post := nonce.map U8) (by repeat (first | exact List.Mem.head _ | apply List.Mem.tail)) rfl rfl)) rfl ?_
  refine Tr.val (V.fieldS (o' := 32) Tryd.runUnderlying59 rfl rfl Tryd.sizeOf26 (by omega) rfl) rfl ?_
  refine Tr.val (V.loadN (cs := nonce.map U8) Tryd.isAgg26 (by rw [List.length_map, hn]; exact Tryd.sizeOf26) rfl (V.cellsO (pre := key.map U8) (post := []) (by repeat (first | exact List.Mem.head _ | apply List.Mem.tail)) (List.append_nil _).symm (by rw [List.length_map, hk]))) rfl ?_
  refine Tr.val (V.move rfl) rfl ?_
  refine Tr.op (W.call (val := fun r0 : Nat × Nat × List Value => .slice (some ⟨r0.1, 0, none⟩) m r0.2.1) (N := fun r0 => [⟨r0.1, 5, (streamL key 1#32 nonce b).map U8 ++ r0.2.2⟩]) (Px := fun r0 => ((streamL key 1#32 nonce b).map U8 ++ r0.2.2).length = r0.2.1) (vs := [_, U32 1#32, _, _]) (args4 rfl rfl rfl rfl) Tryd.call16 rfl (fun w1 hw => stream_any p m c key 1#32 nonce b w1 hk hn (hx.now hw) (by omega) ((RdP.old hq0 (fun _ _ => by simp)).now hw)) fun y hy => ?_)
  refine Tr.val (V.assign rfl) rfl ?_
  refine Tr.lNil ?_
  refine Tr.thenN ?_
  refine Tr.ret ?_
  refine Tr.out1 rfl (Res.tmp rfl) fun w hw => ?_
  exact ⟨y, rfl, hw.sub (.cons_cons _ (List.nil_sublist _)), hy⟩

set_option maxHeartbeats 1000000 in
theorem stag_any (p1 p2 : Option Addr) (m1 c1 m2 c2 : Nat) (key nonce beside enc : List (BitVec 8)) (w : World) (hk : key.length = 32) (hn : nonce.length = 12) (hx : Bytes w p1 m1 c1 beside) (hy2 : Bytes w p2 m2 c2 enc) (hm1 : m1 ≤ 17592186044000) (hm2 : m2 ≤ 17592186044000) (hq0 : RdB w (some ⟨0, 0, none⟩) (qflat.map NV)) :
    Calls Tryd.prog 32 [.agg (key.map U8 ++ nonce.map U8).toArray, .slice p1 m1 c1, .slice p2 m2 c2].toArray w fun r w' => r = .returned (.agg ((tagL key nonce beside enc).map U8).toArray) ∧ Hp w [] [] w' := by
  have hl1 := hx.length
  have hl2 := hy2.length
  refine Tr.enter Tryd.func32 rfl Tryd.ntmps32 rfl (Hp.refl w) ?_
  refine Tr.seq ?_
  refine Tr.region ?_
  refine Tr.op (W.box (cs := (key.map U8 ++ nonce.map U8)) rfl rfl rfl fun g3 => ?_)
  refine Tr.op (W.alloc (cs := (List.replicate 16 0#8).map U8) Tryd.zeroValue61 rfl rfl fun g6 => ?_)
  refine Tr.lNil ?_
  refine Tr.thenN ?_
  refine Tr.seq ?_
  refine Tr.region ?_
  refine Tr.op (W.alloc (cs := (List.replicate 32 0#8).map U8) Tryd.zeroValue23 rfl rfl fun g7 => ?_)
  refine Tr.lNil ?_
  refine Tr.thenN ?_
  refine Tr.seq ?_
  refine Tr.region ?_
  refine Tr.val (V.fieldS (o' := 0) Tryd.runUnderlying59 rfl rfl Tryd.sizeOf23 (by omega) rfl) rfl ?_
  refine Tr.val (V.loadN (cs := key.map U8) Tryd.isAgg23 (by rw [List.length_map, hk]; exact Tryd.sizeOf23) rfl (V.cellsO (pre := []) (post := nonce.map U8) (by repeat (first | exact List.Mem.head _ | apply List.Mem.tail)) rfl rfl)) rfl ?_
  refine Tr.val (V.fieldS (o' := 32) Tryd.runUnderlying59 rfl rfl Tryd.sizeOf26 (by omega) rfl) rfl ?_
  refine Tr.val (V.loadN (cs := nonce.map U8) Tryd.isAgg26 (by rw [List.length_map, hn]; exact Tryd.sizeOf26) rfl (V.cellsO (pre := key.map U8) (post := []) (by repeat (first | exact List.Mem.head _ | apply List.Mem.tail)) (List.append_nil _).symm (by rw [List.length_map, hk]))) rfl ?_
  refine Tr.op (W.call1 (vs := [_, U32 0#32, _]) (args3 rfl rfl rfl) Tryd.call15 rfl (fun w1 hw => block_any key 0#32 nonce w1 hk hn ((RdP.old hq0 (fun _ _ => by simp)).now hw)) ?_)
  refine Tr.op (W.alloc (cs := (List.replicate 64 0#8).map U8) Tryd.zeroValue29 rfl rfl fun g8 => ?_)
  refine Tr.op (W.storeAll (vs := (blockL key 0#32 nonce).map U8) (cs := (List.replicate 64 0#8).map U8) Tryd.sizeOf29 rfl rfl (by rw [List.length_map, blockL_len]) rfl (one8 _) (by repeat (first | exact Upd.head | apply Upd.tail)) ?_)
  refine Tr.lNil ?_
  refine Tr.thenN ?_
  refine Tr.seq ?_
  refine Tr.regionD [0, 0, 3] [2] (.pure 0 (.pure 1 (.hard 2 .done))) mixed (by kernel_rfl) ?_
  refine TrP.pure rfl (fun _ => V.sliceW Tryd.runUnderlying23 Tryd.sizeOf5 rfl) rfl ?_
  refine TrP.pure rfl (fun _ => V.sliceW Tryd.runUnderlying29 Tryd.sizeOf5 rfl) rfl ?_
  refine TrP.hard rfl (W.copy (d := 21) (q := 32) (cs := (List.replicate 32 0#8).map U8) (vs := (blockL key 0#32 nonce).map U8) (cs' := (otk key nonce).map U8) elem27 rfl rfl (RdP.all (by repeat (first | exact List.Mem.head _ | apply List.Mem.tail))) (by rw [List.length_map, blockL_len]) (one8 _) rfl (by repeat (first | exact Upd.head | apply Upd.tail)) (by decide) (by rw [List.take_zero, List.nil_append, ← List.map_take, List.drop_eq_nil_of_le (by simp), List.append_nil]; rfl) (.inr ⟨rfl, rfl⟩) rfl ?_)
  refine Tr.pTail rfl ?_
  refine TrP.done ?_
  refine Tr.thenN ?_
  refine Tr.seq ?_
  refine Tr.region ?_
  refine Tr.val (V.assign rfl) rfl ?_
  refine Tr.lNil ?_
  refine Tr.thenN ?_
  refine Tr.seq ?_
  refine Tr.seq ?_
  refine Tr.region ?_
  refine Tr.val (V.move rfl) rfl ?_
  refine Tr.val (V.move rfl) rfl ?_
  refine Tr.op (W.build (vs := [.slice p1 m1 c1, .slice p2 m2 c2]) elem73 (W.parts2 rfl rfl) rfl (by simp [Value.cells]) (by omega) rfl fun g24 => ?_)
  refine Tr.val (V.len Tryd.runUnderlying73 rfl) rfl ?_
  refine Tr.val (V.move rfl) rfl ?_
  refine Tr.lNil ?_
  refine Tr.thenN ?_
  refine Tr.block ?_
  refine Tr.loop (ι := Nat × Row) (fun x => x.1 ≤ 2 ∧ x.2.ok ((tagAcc beside enc m1 x.1).map U8)) (fun x => [(1, .slice p1 m1 c1), (2, .slice p2 m2 c2), (6, .pointer (some ⟨g6, 0, none⟩)), (7, .pointer (some ⟨g7, 0, none⟩)), (9, x.2.val (tagAcc beside enc m1 x.1).length), (24, .slice (some ⟨g24, 0, none⟩) 2 2), (25, .int .i64 2), (26, NV x.1)]) (fun x => x.2.blk 5 ((tagAcc beside enc m1 x.1).map U8) ++ [⟨g24, 27, [.slice p1 m1 c1, .slice p2 m2 c2]⟩, ⟨g7, 23, (otk key nonce).map U8⟩, ⟨g6, 61, (List.replicate 16 0#8).map U8⟩]) (fun x => 2 - x.1) (0, none) ⟨by decide, rfl⟩ (lk_cons rfl (lk_cons rfl (lk_cons rfl (lk_cons rfl (lk_cons rfl (lk_cons rfl (lk_cons rfl (lk_cons rfl (lk_nil _))))))))) (.cons_cons _ (.cons _ (.cons_cons _ (.cons_cons _ (List.nil_sublist _))))) fun x hI => ?_
  obtain ⟨k, o⟩ := x
  obtain ⟨hk2, hok⟩ := hI
  simp only at hk2 hok ⊢
  have h3 : k = 0 ∨ k = 1 ∨ k = 2 := by omega
  rcases h3 with rfl | rfl | rfl
  · obtain ⟨acc, hacc⟩ : ∃ acc, acc = ([] : List (BitVec 8)) := ⟨_, rfl⟩
    simp only [show tagAcc beside enc m1 0 = acc from hacc.symm] at hok ⊢
    have hal : acc.length ≤ 40000000000000 := by rw [hacc]; simp
    have hst : acc ++ beside ++ List.replicate (padN m1) 0#8 = tagAcc beside enc m1 1 := by rw [hacc]; show [] ++ beside ++ _ = padB beside; rw [List.nil_append, padB, hl1]
    refine Tr.seq ?_
    refine Tr.region ?_
    refine Tr.val (V.lss (b := true) rfl rfl (decide_eq_true (by omega))) rfl ?_
    refine Tr.lNil ?_
    refine Tr.thenN ?_
    refine Tr.seq ?_
    refine Tr.condT rfl ?_
    refine Tr.skip ?_
    refine Tr.thenN ?_
    refine Tr.seq ?_
    refine Tr.block ?_
    refine Tr.seq ?_
    refine Tr.region ?_
    refine Tr.val (V.idxO (j := 0) (o' := 0) Tryd.runUnderlying73 Tryd.sizeOf27 rfl rfl rfl (by omega) rfl) rfl ?_
    refine Tr.val (V.load1 Tryd.isAgg27 rfl (V.cellB (List.mem_append_right _ (by repeat (first | exact List.Mem.head _ | apply List.Mem.tail))) (show [Value.slice p1 m1 c1, Value.slice p2 m2 c2][0]? = some (.slice p1 m1 c1) from rfl))) rfl ?_
    refine Tr.val (V.assign rfl) rfl ?_
    refine Tr.lNil ?_
    refine Tr.thenN ?_
    refine Tr.seq ?_
    refine Tr.region ?_
    refine Tr.val (V.move rfl) rfl ?_
    refine Tr.val (V.move rfl) rfl ?_
    refine Tr.op (W.appendR (o := o) (m := acc.length) (k := m1) (xs := acc.map U8) (vs := beside.map U8) (R := [⟨g24, 27, [.slice p1 m1 c1, .slice p2 m2 c2]⟩, ⟨g7, 23, (otk key nonce).map U8⟩, ⟨g6, 61, (List.replicate 16 0#8).map U8⟩]) elem27 rfl rfl hx.old (by rw [List.length_map]; exact hx.length) (one8 _) hok (by rw [List.length_map]) (List.Perm.refl _) (by omega) (by omega) rfl fun o1 hok1 => ?_)
    refine Tr.val (V.assign rfl) rfl ?_
    refine Tr.lNil ?_
    refine Tr.thenN ?_
    refine Tr.region ?_
    refine Tr.val (V.move rfl) rfl ?_
    refine Tr.val (V.move rfl) rfl ?_
    refine Tr.val (V.len Tryd.runUnderlying27 rfl) rfl ?_
    refine Tr.val (V.negI rfl (by omega)) rfl ?_
    refine Tr.val ((by rw [← padN_neg]; exact V.mask (k := 4) rfl rfl (by decide) : VOp Tryd.prog _ _ _ _ _ _ _ (.int .i64 ((padN m1 : Nat) : Int)))) rfl ?_
    refine Tr.op (W.appendZR (z := .int .u8 0) (o := o1) (m := acc.length + m1) (k := padN m1) (xs := acc.map U8 ++ beside.map U8) (R := [⟨g24, 27, [.slice p1 m1 c1, .slice p2 m2 c2]⟩, ⟨g7, 23, (otk key nonce).map U8⟩, ⟨g6, 61, (List.replicate 16 0#8).map U8⟩]) elem27 Tryd.underlying3 rfl rfl rfl rfl hok1 (by rw [List.length_append, List.length_map, List.length_map, hx.length]) (List.Perm.refl _) (by have := padN_lt m1; omega) (by have := padN_lt m1; omega) (by have := padN_lt m1; omega) rfl fun o2 hok2 => ?_)
    rw [show acc.map U8 ++ beside.map U8 ++ List.replicate (padN m1) (Value.int .u8 0) = (tagAcc beside enc m1 1).map U8 by rw [← hst, List.map_append, List.map_append, List.map_replicate]; rfl] at hok2 ⊢
    have hln : acc.length + m1 + padN m1 = (tagAcc beside enc m1 1).length := by have h := congrArg List.length hst; simp only [List.length_append, List.length_replicate, hx.length] at h; exact h
    refine Tr.val (V.assign rfl) rfl ?_
    refine Tr.lNil ?_
    refine Tr.inN ?_
    refine Tr.thenN ?_
    refine Tr.region ?_
    refine Tr.val (V.add rfl rfl (by omega)) rfl ?_
    refine Tr.val (V.move rfl) rfl ?_
    refine Tr.lNil ?_
    exact Tr.again (1, o2) ⟨by simp only; omega, hok2⟩ (by first | omega | (simp only; omega)) (lk_cons rfl (lk_cons rfl (lk_cons rfl (lk_cons rfl (lk_cons (by rw [← hln]; rfl) (lk_cons rfl (lk_cons rfl (lk_cons rfl (lk_nil _))))))))) (List.Sublist.refl _)
  · obtain ⟨acc, hacc⟩ : ∃ acc, acc = (padB beside) := ⟨_, rfl⟩
    simp only [show tagAcc beside enc m1 1 = acc from hacc.symm] at hok ⊢
    have hal : acc.length ≤ 40000000000000 := by rw [hacc]; have := padN_lt m1; rw [padB_len, hl1]; omega
    have hst : acc ++ enc ++ List.replicate (padN m2) 0#8 = tagAcc beside enc m1 2 := by rw [hacc]; show _ = padB beside ++ padB enc; rw [padB.eq_1 enc, hl2, List.append_assoc]
    refine Tr.seq ?_
    refine Tr.region ?_
    refine Tr.val (V.lss (b := true) rfl rfl (decide_eq_true (by omega))) rfl ?_
    refine Tr.lNil ?_
    refine Tr.thenN ?_
    refine Tr.seq ?_
    refine Tr.condT rfl ?_
    refine Tr.skip ?_
    refine Tr.thenN ?_
    refine Tr.seq ?_
    refine Tr.block ?_
    refine Tr.seq ?_
    refine Tr.region ?_
    refine Tr.val (V.idxO (j := 1) (o' := 1) Tryd.runUnderlying73 Tryd.sizeOf27 rfl rfl rfl (by omega) rfl) rfl ?_
    refine Tr.val (V.load1 Tryd.isAgg27 rfl (V.cellB (List.mem_append_right _ (by repeat (first | exact List.Mem.head _ | apply List.Mem.tail))) (show [Value.slice p1 m1 c1, Value.slice p2 m2 c2][1]? = some (.slice p2 m2 c2) from rfl))) rfl ?_
    refine Tr.val (V.assign rfl) rfl ?_
    refine Tr.lNil ?_
    refine Tr.thenN ?_
    refine Tr.seq ?_
    refine Tr.region ?_
    refine Tr.val (V.move rfl) rfl ?_
    refine Tr.val (V.move rfl) rfl ?_
    refine Tr.op (W.appendR (o := o) (m := acc.length) (k := m2) (xs := acc.map U8) (vs := enc.map U8) (R := [⟨g24, 27, [.slice p1 m1 c1, .slice p2 m2 c2]⟩, ⟨g7, 23, (otk key nonce).map U8⟩, ⟨g6, 61, (List.replicate 16 0#8).map U8⟩]) elem27 rfl rfl hy2.old (by rw [List.length_map]; exact hy2.length) (one8 _) hok (by rw [List.length_map]) (List.Perm.refl _) (by omega) (by omega) rfl fun o1 hok1 => ?_)
    refine Tr.val (V.assign rfl) rfl ?_
    refine Tr.lNil ?_
    refine Tr.thenN ?_
    refine Tr.region ?_
    refine Tr.val (V.move rfl) rfl ?_
    refine Tr.val (V.move rfl) rfl ?_
    refine Tr.val (V.len Tryd.runUnderlying27 rfl) rfl ?_
    refine Tr.val (V.negI rfl (by omega)) rfl ?_
    refine Tr.val ((by rw [← padN_neg]; exact V.mask (k := 4) rfl rfl (by decide) : VOp Tryd.prog _ _ _ _ _ _ _ (.int .i64 ((padN m2 : Nat) : Int)))) rfl ?_
    refine Tr.op (W.appendZR (z := .int .u8 0) (o := o1) (m := acc.length + m2) (k := padN m2) (xs := acc.map U8 ++ enc.map U8) (R := [⟨g24, 27, [.slice p1 m1 c1, .slice p2 m2 c2]⟩, ⟨g7, 23, (otk key nonce).map U8⟩, ⟨g6, 61, (List.replicate 16 0#8).map U8⟩]) elem27 Tryd.underlying3 rfl rfl rfl rfl hok1 (by rw [List.length_append, List.length_map, List.length_map, hy2.length]) (List.Perm.refl _) (by have := padN_lt m2; omega) (by have := padN_lt m2; omega) (by have := padN_lt m2; omega) rfl fun o2 hok2 => ?_)
    rw [show acc.map U8 ++ enc.map U8 ++ List.replicate (padN m2) (Value.int .u8 0) = (tagAcc beside enc m1 2).map U8 by rw [← hst, List.map_append, List.map_append, List.map_replicate]; rfl] at hok2 ⊢
    have hln : acc.length + m2 + padN m2 = (tagAcc beside enc m1 2).length := by have h := congrArg List.length hst; simp only [List.length_append, List.length_replicate, hy2.length] at h; exact h
    refine Tr.val (V.assign rfl) rfl ?_
    refine Tr.lNil ?_
    refine Tr.inN ?_
    refine Tr.thenN ?_
    refine Tr.region ?_
    refine Tr.val (V.add rfl rfl (by omega)) rfl ?_
    refine Tr.val (V.move rfl) rfl ?_
    refine Tr.lNil ?_
    exact Tr.again (2, o2) ⟨by simp only; omega, hok2⟩ (by first | omega | (simp only; omega)) (lk_cons rfl (lk_cons rfl (lk_cons rfl (lk_cons rfl (lk_cons (by rw [← hln]; rfl) (lk_cons rfl (lk_cons rfl (lk_cons rfl (lk_nil _))))))))) (List.Sublist.refl _)
  · refine Tr.seq ?_
    refine Tr.region ?_
    refine Tr.val (V.lss (b := false) rfl rfl (decide_eq_false (by omega))) rfl ?_
    refine Tr.lNil ?_
    refine Tr.thenN ?_
    refine Tr.seq ?_
    refine Tr.condF rfl ?_
    refine Tr.exit ?_
    refine Tr.thenX ?_
    refine Tr.thenX ?_
    refine Tr.inHit ?_
    refine Tr.thenN ?_
    refine Tr.seq ?_
    refine Tr.seq ?_
    refine Tr.region ?_
    refine Tr.val (V.move rfl) rfl ?_
    refine Tr.val (V.move rfl) rfl ?_
    refine Tr.op (W.build (vs := [.slice p1 m1 c1, .slice p2 m2 c2]) elem73 (W.parts2 rfl rfl) rfl (by simp [Value.cells]) (by omega) rfl fun g42 => ?_)
    refine Tr.val (V.len Tryd.runUnderlying73 rfl) rfl ?_
    refine Tr.val (V.move rfl) rfl ?_
    refine Tr.lNil ?_
    refine Tr.thenN ?_
    refine Tr.block ?_
    refine Tr.permL List.perm_middle.symm ?_
    refine Tr.loop (ι := Nat × Row) (fun x => x.1 ≤ 2 ∧ x.2.ok ((tagAcc beside enc m1 (x.1 + 2)).map U8)) (fun x => [(1, .slice p1 m1 c1), (2, .slice p2 m2 c2), (6, .pointer (some ⟨g6, 0, none⟩)), (7, .pointer (some ⟨g7, 0, none⟩)), (9, x.2.val (tagAcc beside enc m1 (x.1 + 2)).length), (42, .slice (some ⟨g42, 0, none⟩) 2 2), (43, .int .i64 2), (44, NV x.1)]) (fun x => x.2.blk 5 ((tagAcc beside enc m1 (x.1 + 2)).map U8) ++ [⟨g42, 27, [.slice p1 m1 c1, .slice p2 m2 c2]⟩, ⟨g7, 23, (otk key nonce).map U8⟩, ⟨g6, 61, (List.replicate 16 0#8).map U8⟩]) (fun x => 2 - x.1) (0, o) ⟨by simp only; omega, hok⟩ (lk_cons rfl (lk_cons rfl (lk_cons rfl (lk_cons rfl (lk_cons rfl (lk_cons rfl (lk_cons rfl (lk_cons rfl (lk_nil _))))))))) (List.Sublist.append (List.Sublist.refl _) (.cons_cons _ (.cons _ (List.Sublist.refl _)))) fun x hI => ?_
    clear hok hk2
    obtain ⟨k, o⟩ := x
    obtain ⟨hk2, hok⟩ := hI
    simp only at hk2 hok ⊢
    have h3 : k = 0 ∨ k = 1 ∨ k = 2 := by omega
    rcases h3 with rfl | rfl | rfl
    · obtain ⟨acc, hacc⟩ : ∃ acc, acc = (padB beside ++ padB enc) := ⟨_, rfl⟩
      simp only [show tagAcc beside enc m1 (0 + 2) = acc from hacc.symm] at hok ⊢
      have hal : acc.length ≤ 80000000000000 := by rw [hacc]; have h1 := padN_lt m1; have h2 := padN_lt m2; simp only [List.length_append, padB_len, hl1, hl2, putL_len]; omega
      have hst : acc ++ putL (BitVec.ofNat 64 m1) 8 = tagAcc beside enc m1 (1 + 2) := by rw [hacc]; rfl
      have hln : acc.length + 8 = (tagAcc beside enc m1 (1 + 2)).length := by rw [← hst, List.length_append, putL_len]
      obtain ⟨pp, mm, cc, hval, hrd, hmm, hnn, hle⟩ := Row.read (L := o.blk 5 (acc.map U8) ++ [⟨g42, 27, [.slice p1 m1 c1, .slice p2 m2 c2]⟩, ⟨g7, 23, (otk key nonce).map U8⟩, ⟨g6, 61, (List.replicate 16 0#8).map U8⟩]) (B := w) (E := []) (el := 5) o (acc.map U8) hok (fun y hy => by simp [hy])
      rw [List.length_map] at hval hmm
      subst hmm
      have hput : ∀ w1, RdB w1 pp (acc.map U8) → Calls Tryd.prog 25 [.slice pp acc.length cc, .int .i64 8, U64 (BitVec.ofNat 64 m1), .bool false].toArray w1 fun r w' => ∃ x : Nat × Nat × List Value, r = .returned (.slice (some ⟨x.1, 0, none⟩) (acc.length + 8) x.2.1) ∧ Hp w1 [] [⟨x.1, 5, (tagAcc beside enc m1 (1 + 2)).map U8 ++ x.2.2⟩] w' ∧ ((tagAcc beside enc m1 (1 + 2)).map U8 ++ x.2.2).length = x.2.1 := fun w1 hr => by
        have h := put_any pp acc.length cc acc 8 (BitVec.ofNat 64 m1) false w1 hr rfl (fun hp => by obtain ⟨h1, h2, h3⟩ := hnn hp; exact ⟨h1, h2, List.map_eq_nil_iff.1 h3⟩) (by omega) (.inr (by decide))
        unfold PutOut at h
        rw [show effI 8 = 8 from by decide, show putW false (BitVec.ofNat 64 m1) 8 = putL (BitVec.ofNat 64 m1) 8 from rfl, hst] at h
        exact h
      rw [hval]
      refine Tr.seq ?_
      refine Tr.region ?_
      refine Tr.val (V.lss (b := true) rfl rfl (decide_eq_true (by omega))) rfl ?_
      refine Tr.lNil ?_
      refine Tr.thenN ?_
      refine Tr.seq ?_
      refine Tr.condT rfl ?_
      refine Tr.skip ?_
      refine Tr.thenN ?_
      refine Tr.seq ?_
      refine Tr.block ?_
      refine Tr.seq ?_
      refine Tr.region ?_
      refine Tr.val (V.idxO (j := 0) (o' := 0) Tryd.runUnderlying73 Tryd.sizeOf27 rfl rfl rfl (by omega) rfl) rfl ?_
      refine Tr.val (V.load1 Tryd.isAgg27 rfl (V.cellB (List.mem_append_right _ (by repeat (first | exact List.Mem.head _ | apply List.Mem.tail))) (show [Value.slice p1 m1 c1, Value.slice p2 m2 c2][0]? = some (.slice p1 m1 c1) from rfl))) rfl ?_
      refine Tr.val (V.assign rfl) rfl ?_
      refine Tr.lNil ?_
      refine Tr.thenN ?_
      refine Tr.region ?_
      refine Tr.val (V.move rfl) rfl ?_
      refine Tr.val (V.move rfl) rfl ?_
      refine Tr.val (V.len Tryd.runUnderlying27 rfl) rfl ?_
      refine Tr.val (V.convB_64 (a := m1) Tryd.runUnderlying3 Tryd.runUnderlying53 rfl) rfl ?_
      refine Tr.op (W.call (val := fun x : Nat × Nat × List Value => .slice (some ⟨x.1, 0, none⟩) (acc.length + 8) x.2.1) (N := fun x => [⟨x.1, 5, (tagAcc beside enc m1 (1 + 2)).map U8 ++ x.2.2⟩]) (Px := fun x => ((tagAcc beside enc m1 (1 + 2)).map U8 ++ x.2.2).length = x.2.1)  (args4 rfl rfl rfl rfl) Tryd.call25 rfl (fun w1 hw => hput w1 (hrd.now hw)) fun y hy => ?_)
      refine Tr.val (V.assign rfl) rfl ?_
      refine Tr.lNil ?_
      refine Tr.inN ?_
      refine Tr.thenN ?_
      refine Tr.region ?_
      refine Tr.val (V.add rfl rfl (by omega)) rfl ?_
      refine Tr.val (V.move rfl) rfl ?_
      refine Tr.lNil ?_
      exact Tr.again (1, some (y.1, y.2.1, y.2.2)) ⟨by simp only; omega, hy⟩ (by first | omega | (simp only; omega)) (lk_cons rfl (lk_cons rfl (lk_cons rfl (lk_cons rfl (lk_cons (by rw [← hln]; rfl) (lk_cons rfl (lk_cons rfl (lk_cons rfl (lk_nil _))))))))) (.cons_cons _ (List.sublist_append_right _ _))
    · obtain ⟨acc, hacc⟩ : ∃ acc, acc = (padB beside ++ padB enc ++ putL (BitVec.ofNat 64 m1) 8) := ⟨_, rfl⟩
      simp only [show tagAcc beside enc m1 (1 + 2) = acc from hacc.symm] at hok ⊢
      have hal : acc.length ≤ 80000000000000 := by rw [hacc]; have h1 := padN_lt m1; have h2 := padN_lt m2; simp only [List.length_append, padB_len, hl1, hl2, putL_len]; omega
      have hst : acc ++ putL (BitVec.ofNat 64 m2) 8 = tagAcc beside enc m1 (2 + 2) := by rw [hacc]; show _ = authB beside enc; rw [authB, hl1, hl2]
      have hln : acc.length + 8 = (tagAcc beside enc m1 (2 + 2)).length := by rw [← hst, List.length_append, putL_len]
      obtain ⟨pp, mm, cc, hval, hrd, hmm, hnn, hle⟩ := Row.read (L := o.blk 5 (acc.map U8) ++ [⟨g42, 27, [.slice p1 m1 c1, .slice p2 m2 c2]⟩, ⟨g7, 23, (otk key nonce).map U8⟩, ⟨g6, 61, (List.replicate 16 0#8).map U8⟩]) (B := w) (E := []) (el := 5) o (acc.map U8) hok (fun y hy => by simp [hy])
      rw [List.length_map] at hval hmm
      subst hmm
      have hput : ∀ w1, RdB w1 pp (acc.map U8) → Calls Tryd.prog 25 [.slice pp acc.length cc, .int .i64 8, U64 (BitVec.ofNat 64 m2), .bool false].toArray w1 fun r w' => ∃ x : Nat × Nat × List Value, r = .returned (.slice (some ⟨x.1, 0, none⟩) (acc.length + 8) x.2.1) ∧ Hp w1 [] [⟨x.1, 5, (tagAcc beside enc m1 (2 + 2)).map U8 ++ x.2.2⟩] w' ∧ ((tagAcc beside enc m1 (2 + 2)).map U8 ++ x.2.2).length = x.2.1 := fun w1 hr => by
        have h := put_any pp acc.length cc acc 8 (BitVec.ofNat 64 m2) false w1 hr rfl (fun hp => by obtain ⟨h1, h2, h3⟩ := hnn hp; exact ⟨h1, h2, List.map_eq_nil_iff.1 h3⟩) (by omega) (.inr (by decide))
        unfold PutOut at h
        rw [show effI 8 = 8 from by decide, show putW false (BitVec.ofNat 64 m2) 8 = putL (BitVec.ofNat 64 m2) 8 from rfl, hst] at h
        exact h
      rw [hval]
      refine Tr.seq ?_
      refine Tr.region ?_
      refine Tr.val (V.lss (b := true) rfl rfl (decide_eq_true (by omega))) rfl ?_
      refine Tr.lNil ?_
      refine Tr.thenN ?_
      refine Tr.seq ?_
      refine Tr.condT rfl ?_
      refine Tr.skip ?_
      refine Tr.thenN ?_
      refine Tr.seq ?_
      refine Tr.block ?_
      refine Tr.seq ?_
      refine Tr.region ?_
      refine Tr.val (V.idxO (j := 1) (o' := 1) Tryd.runUnderlying73 Tryd.sizeOf27 rfl rfl rfl (by omega) rfl) rfl ?_
      refine Tr.val (V.load1 Tryd.isAgg27 rfl (V.cellB (List.mem_append_right _ (by repeat (first | exact List.Mem.head _ | apply List.Mem.tail))) (show [Value.slice p1 m1 c1, Value.slice p2 m2 c2][1]? = some (.slice p2 m2 c2) from rfl))) rfl ?_
      refine Tr.val (V.assign rfl) rfl ?_
      refine Tr.lNil ?_
      refine Tr.thenN ?_
      refine Tr.region ?_
      refine Tr.val (V.move rfl) rfl ?_
      refine Tr.val (V.move rfl) rfl ?_
      refine Tr.val (V.len Tryd.runUnderlying27 rfl) rfl ?_
      refine Tr.val (V.convB_64 (a := m2) Tryd.runUnderlying3 Tryd.runUnderlying53 rfl) rfl ?_
      refine Tr.op (W.call (val := fun x : Nat × Nat × List Value => .slice (some ⟨x.1, 0, none⟩) (acc.length + 8) x.2.1) (N := fun x => [⟨x.1, 5, (tagAcc beside enc m1 (2 + 2)).map U8 ++ x.2.2⟩]) (Px := fun x => ((tagAcc beside enc m1 (2 + 2)).map U8 ++ x.2.2).length = x.2.1)  (args4 rfl rfl rfl rfl) Tryd.call25 rfl (fun w1 hw => hput w1 (hrd.now hw)) fun y hy => ?_)
      refine Tr.val (V.assign rfl) rfl ?_
      refine Tr.lNil ?_
      refine Tr.inN ?_
      refine Tr.thenN ?_
      refine Tr.region ?_
      refine Tr.val (V.add rfl rfl (by omega)) rfl ?_
      refine Tr.val (V.move rfl) rfl ?_
      refine Tr.lNil ?_
      exact Tr.again (2, some (y.1, y.2.1, y.2.2)) ⟨by simp only; omega, hy⟩ (by first | omega | (simp only; omega)) (lk_cons rfl (lk_cons rfl (lk_cons rfl (lk_cons rfl (lk_cons (by rw [← hln]; rfl) (lk_cons rfl (lk_cons rfl (lk_cons rfl (lk_nil _))))))))) (.cons_cons _ (List.sublist_append_right _ _))
    · obtain ⟨pp, mm, cc, hval, hrd, hmm, hnn, hle⟩ := Row.read (L := o.blk 5 ((authB beside enc).map U8) ++ [⟨g42, 27, [.slice p1 m1 c1, .slice p2 m2 c2]⟩, ⟨g7, 23, (otk key nonce).map U8⟩, ⟨g6, 61, (List.replicate 16 0#8).map U8⟩]) (B := w) (E := []) (el := 5) o ((authB beside enc).map U8) hok (fun y hy => by simp [hy])
      rw [List.length_map] at hval hmm
      simp only [show tagAcc beside enc m1 (2 + 2) = authB beside enc from rfl] at hok ⊢
      rw [hval]
      have hml : mm ≤ 80000000000000 := by
        have h1 := padN_lt m1; have h2 := padN_lt m2
        rw [hmm, authB]; simp only [List.length_append, padB_len, hl1, hl2, putL_len]; omega
      refine Tr.seq ?_
      refine Tr.region ?_
      refine Tr.val (V.lss (b := false) rfl rfl (decide_eq_false (by omega))) rfl ?_
      refine Tr.lNil ?_
      refine Tr.thenN ?_
      refine Tr.seq ?_
      refine Tr.condF rfl ?_
      refine Tr.exit ?_
      refine Tr.thenX ?_
      refine Tr.thenX ?_
      refine Tr.inHit ?_
      refine Tr.thenN ?_
      refine Tr.seq ?_
      refine Tr.region ?_
      refine Tr.val (V.loadN (cs := (otk key nonce).map U8) Tryd.isAgg23 (by rw [List.length_map, otk_len]; exact Tryd.sizeOf23) rfl (V.cellsB (List.mem_append_right _ (by repeat (first | exact List.Mem.head _ | apply List.Mem.tail))))) rfl ?_
      refine Tr.val (V.move rfl) rfl ?_
      refine Tr.op (W.call1 (args2 rfl rfl) Tryd.call42 rfl (fun w1 hw => sum_any pp mm cc (otk key nonce) (authB beside enc) w1 (otk_len _ _) ⟨hrd.now hw, hmm.symm, hle, by omega, fun hp => by obtain ⟨h1, h2, h3⟩ := hnn hp; exact ⟨h1, h2, List.map_eq_nil_iff.1 h3⟩⟩) ?_)
      refine Tr.op (W.storeAll (vs := (tagL key nonce beside enc).map U8) (cs := (List.replicate 16 0#8).map U8) Tryd.sizeOf61 rfl rfl (by rw [List.length_map, tagL_len]) rfl (one8 _) (Upd.right (by repeat (first | exact Upd.head | apply Upd.tail)) _) ?_)
      refine Tr.lNil ?_
      refine Tr.thenN ?_
      refine Tr.ret ?_
      refine Tr.out1 rfl (Res.cellN (cs := (tagL key nonce beside enc).map U8) rfl Tryd.isAgg61 (by rw [List.length_map, tagL_len]; exact Tryd.sizeOf61) (List.mem_append_right _ (by repeat (first | exact List.Mem.head _ | apply List.Mem.tail)))) fun w hw => ?_
      exact ⟨rfl, hw.sub (List.nil_sublist _)⟩

theorem grow_any (k : Nat) (w : World) (h0 : 0 < k) (hk : k ≤ 100000000000000) :
    Calls Tryd.prog 43 [.slice none 0 0, NV k].toArray w fun r w' => ∃ x : Nat × Nat × List Value, r = .returned (.slice (some ⟨x.1, 0, none⟩) 0 x.2.1) ∧ Hp w [] [⟨x.1, 5, x.2.2⟩] w' ∧ x.2.2.length = x.2.1 ∧ k ≤ x.2.1 := by
  refine Tr.enter Tryd.func43 rfl Tryd.ntmps43 rfl (Hp.refl w) ?_
  refine Tr.seq ?_
  refine Tr.region ?_
  refine Tr.val (V.assign rfl) rfl ?_
  refine Tr.lNil ?_
  refine Tr.thenN ?_
  refine Tr.seq ?_
  refine Tr.seq ?_
  refine Tr.region ?_
  refine Tr.val (V.move rfl) rfl ?_
  refine Tr.val (V.lss (b := false) rfl rfl (decide_eq_false (by omega))) rfl ?_
  refine Tr.lNil ?_
  refine Tr.thenN ?_
  refine Tr.condF rfl ?_
  refine Tr.skip ?_
  refine Tr.thenN ?_
  refine Tr.seq ?_
  refine Tr.seq ?_
  refine Tr.region ?_
  refine Tr.val (V.move rfl) rfl ?_
  refine Tr.val (V.move rfl) rfl ?_
  refine Tr.val (V.cap (c := 0) Tryd.runUnderlying27 rfl) rfl ?_
  refine Tr.val (V.move rfl) rfl ?_
  refine Tr.val (V.len Tryd.runUnderlying27 rfl) rfl ?_
  refine Tr.val ((V.subN (a := 0) (b := 0) rfl rfl (by omega) (by omega) : VOp Tryd.prog _ _ _ _ _ _ _ (NV 0))) rfl ?_
  refine Tr.val ((V.subN (a := k) (b := 0) rfl rfl (by omega) (by omega) : VOp Tryd.prog _ _ _ _ _ _ _ (NV k))) rfl ?_
  refine Tr.val (V.assign rfl) rfl ?_
  refine Tr.lNil ?_
  refine Tr.thenN ?_
  refine Tr.seq ?_
  refine Tr.region ?_
  refine Tr.val (V.move rfl) rfl ?_
  refine Tr.val (V.gtr (b := true) rfl rfl (decide_eq_true (by omega))) rfl ?_
  refine Tr.lNil ?_
  refine Tr.thenN ?_
  refine Tr.condT rfl ?_
  refine Tr.region ?_
  refine Tr.val (V.move rfl) rfl ?_
  refine Tr.val (V.move rfl) rfl ?_
  refine Tr.val (V.cap Tryd.runUnderlying27 rfl) rfl ?_
  refine Tr.val (V.cut (h := 0) Tryd.runUnderlying27 Tryd.sizeOf5 rfl rfl (by omega)) rfl ?_
  refine Tr.val (V.move rfl) rfl ?_
  refine Tr.op (W.appendNilZ (k := k) elem27 Tryd.underlying3 rfl rfl rfl h0 (by omega) (by omega) rfl fun g c junk hc => ?_)
  refine Tr.val (V.move rfl) rfl ?_
  refine Tr.val (V.len Tryd.runUnderlying27 rfl) rfl ?_
  refine Tr.val (V.cut (h := 0) Tryd.runUnderlying27 Tryd.sizeOf5 rfl rfl (by omega)) rfl ?_
  refine Tr.val (V.assign rfl) rfl ?_
  refine Tr.lNil ?_
  refine Tr.thenN ?_
  refine Tr.seq ?_
  refine Tr.region ?_
  refine Tr.val (V.move rfl) rfl ?_
  refine Tr.val (V.assign rfl) rfl ?_
  refine Tr.lNil ?_
  refine Tr.thenN ?_
  refine Tr.ret ?_
  refine Tr.out1 rfl (Res.tmp rfl) fun w hw => ?_
  exact ⟨⟨g, c, List.replicate k (.int .u8 0) ++ junk⟩, rfl, hw, hc, by have h := hc; simp only [List.length_append, List.length_replicate] at h; show k ≤ c; omega⟩

theorem concat_any (ad : Addr) (p1 p2 : Option Addr) (m1 c1 m2 c2 : Nat) (xs ys : List (BitVec 8)) (w : World) (hr : RdB w (some ad) [.slice p1 m1 c1, .slice p2 m2 c2]) (hx : Bytes w p1 m1 c1 xs) (hy2 : Bytes w p2 m2 c2 ys) (h0 : 0 < m1 + m2) (hm1 : m1 ≤ 17592186044000) (hm2 : m2 ≤ 17592186044000) :
    Calls Tryd.prog 33 [.slice (some ad) 2 2].toArray w fun r w' => ∃ x : Nat × Nat × List Value, r = .returned (.slice (some ⟨x.1, 0, none⟩) (m1 + m2) x.2.1) ∧ Hp w [] [⟨x.1, 5, (xs ++ ys).map U8 ++ x.2.2⟩] w' ∧ ((xs ++ ys).map U8 ++ x.2.2).length = x.2.1 := by
  refine Tr.enter Tryd.func33 rfl Tryd.ntmps33 rfl (Hp.refl w) ?_
  refine Tr.seq ?_
  refine Tr.region ?_
  refine Tr.val (V.assign rfl) rfl ?_
  refine Tr.lNil ?_
  refine Tr.thenN ?_
  refine Tr.seq ?_
  refine Tr.region ?_
  refine Tr.val (V.assign rfl) rfl ?_
  refine Tr.lNil ?_
  refine Tr.thenN ?_
  refine Tr.seq ?_
  refine Tr.seq ?_
  refine Tr.region ?_
  refine Tr.val (V.move rfl) rfl ?_
  refine Tr.val (V.len Tryd.runUnderlying73 rfl) rfl ?_
  refine Tr.val (V.move rfl) rfl ?_
  refine Tr.lNil ?_
  refine Tr.thenN ?_
  refine Tr.block ?_
  refine Tr.loop (ι := Nat) (fun k => k ≤ 2) (fun k => [(0, .slice (some ad) 2 2), (3, NV (sumTo m1 m2 k)), (9, .slice (some ad) 2 2), (10, .int .i64 2), (11, NV k)]) (fun k => []) (fun k => 2 - k) 0 (by decide) (lk_cons rfl (lk_cons rfl (lk_cons rfl (lk_cons rfl (lk_cons rfl (lk_nil _)))))) (List.Sublist.refl _) fun k hI => ?_
  have h3 : k = 0 ∨ k = 1 ∨ k = 2 := by omega
  rcases h3 with rfl | rfl | rfl
  · refine Tr.seq ?_
    refine Tr.region ?_
    refine Tr.val (V.lss (b := true) rfl rfl (decide_eq_true (by omega))) rfl ?_
    refine Tr.lNil ?_
    refine Tr.thenN ?_
    refine Tr.seq ?_
    refine Tr.condT rfl ?_
    refine Tr.skip ?_
    refine Tr.thenN ?_
    refine Tr.seq ?_
    refine Tr.block ?_
    refine Tr.seq ?_
    refine Tr.region ?_
    refine Tr.val (V.idxS (j := 0) Tryd.runUnderlying73 Tryd.sizeOf27 rfl rfl rfl (by omega) rfl) rfl ?_
    refine Tr.val (V.load1 Tryd.isAgg27 rfl (V.cellR (RdP.old hr (fun _ _ => by simp)) (show ([.slice p1 m1 c1, .slice p2 m2 c2] : List Value)[0]? = some (.slice p1 m1 c1) from rfl))) rfl ?_
    refine Tr.val (V.assign rfl) rfl ?_
    refine Tr.lNil ?_
    refine Tr.thenN ?_
    refine Tr.seq ?_
    refine Tr.region ?_
    refine Tr.val (V.move rfl) rfl ?_
    refine Tr.val (V.move rfl) rfl ?_
    refine Tr.val (V.len Tryd.runUnderlying27 rfl) rfl ?_
    refine Tr.val ((V.addN (a := 0) (b := m1) rfl rfl (by omega))) rfl ?_
    refine Tr.val (V.assign rfl) rfl ?_
    refine Tr.lNil ?_
    refine Tr.thenN ?_
    refine Tr.seq ?_
    refine Tr.region ?_
    refine Tr.val (V.move rfl) rfl ?_
    refine Tr.val (V.lss (b := false) rfl rfl (decide_eq_false (by omega))) rfl ?_
    refine Tr.lNil ?_
    refine Tr.thenN ?_
    refine Tr.condF rfl ?_
    refine Tr.skip ?_
    refine Tr.inN ?_
    refine Tr.thenN ?_
    refine Tr.region ?_
    refine Tr.val (V.add rfl rfl (by omega)) rfl ?_
    refine Tr.val (V.move rfl) rfl ?_
    refine Tr.lNil ?_
    exact Tr.again 1 (by omega) (by omega) (lk_cons rfl (lk_cons (by rw [show sumTo m1 m2 1 = 0 + m1 from (Nat.zero_add m1).symm]; rfl) (lk_cons rfl (lk_cons rfl (lk_cons rfl (lk_nil _)))))) (List.Sublist.refl _)
  · refine Tr.seq ?_
    refine Tr.region ?_
    refine Tr.val (V.lss (b := true) rfl rfl (decide_eq_true (by omega))) rfl ?_
    refine Tr.lNil ?_
    refine Tr.thenN ?_
    refine Tr.seq ?_
    refine Tr.condT rfl ?_
    refine Tr.skip ?_
    refine Tr.thenN ?_
    refine Tr.seq ?_
    refine Tr.block ?_
    refine Tr.seq ?_
    refine Tr.region ?_
    refine Tr.val (V.idxS (j := 1) Tryd.runUnderlying73 Tryd.sizeOf27 rfl rfl rfl (by omega) rfl) rfl ?_
    refine Tr.val (V.load1 Tryd.isAgg27 rfl (V.cellR (RdP.old hr (fun _ _ => by simp)) (show ([.slice p1 m1 c1, .slice p2 m2 c2] : List Value)[1]? = some (.slice p2 m2 c2) from rfl))) rfl ?_
    refine Tr.val (V.assign rfl) rfl ?_
    refine Tr.lNil ?_
    refine Tr.thenN ?_
    refine Tr.seq ?_
    refine Tr.region ?_
    refine Tr.val (V.move rfl) rfl ?_
    refine Tr.val (V.move rfl) rfl ?_
    refine Tr.val (V.len Tryd.runUnderlying27 rfl) rfl ?_
    refine Tr.val ((V.addN (a := m1) (b := m2) rfl rfl (by omega))) rfl ?_
    refine Tr.val (V.assign rfl) rfl ?_
    refine Tr.lNil ?_
    refine Tr.thenN ?_
    refine Tr.seq ?_
    refine Tr.region ?_
    refine Tr.val (V.move rfl) rfl ?_
    refine Tr.val (V.lss (b := false) rfl rfl (decide_eq_false (by omega))) rfl ?_
    refine Tr.lNil ?_
    refine Tr.thenN ?_
    refine Tr.condF rfl ?_
    refine Tr.skip ?_
    refine Tr.inN ?_
    refine Tr.thenN ?_
    refine Tr.region ?_
    refine Tr.val (V.add rfl rfl (by omega)) rfl ?_
    refine Tr.val (V.move rfl) rfl ?_
    refine Tr.lNil ?_
    exact Tr.again 2 (by omega) (by omega) (lk_cons rfl (lk_cons rfl (lk_cons rfl (lk_cons rfl (lk_cons rfl (lk_nil _)))))) (List.Sublist.refl _)
  · refine Tr.seq ?_
    refine Tr.region ?_
    refine Tr.val (V.lss (b := false) rfl rfl (decide_eq_false (by omega))) rfl ?_
    refine Tr.lNil ?_
    refine Tr.thenN ?_
    refine Tr.seq ?_
    refine Tr.condF rfl ?_
    refine Tr.exit ?_
    refine Tr.thenX ?_
    refine Tr.thenX ?_
    refine Tr.inHit ?_
    refine Tr.thenN ?_
    refine Tr.seq ?_
    refine Tr.region ?_
    refine Tr.val (V.move rfl) rfl ?_
    refine Tr.op (W.call (val := fun x : Nat × Nat × List Value => .slice (some ⟨x.1, 0, none⟩) 0 x.2.1) (N := fun x => [⟨x.1, 5, x.2.2⟩]) (Px := fun x => x.2.2.length = x.2.1 ∧ m1 + m2 ≤ x.2.1)  (args2 rfl rfl) Tryd.call43 rfl (fun w1 hw => grow_any (m1 + m2) w1 h0 (by omega)) fun y hy => ?_)
    refine Tr.val (V.assign rfl) rfl ?_
    refine Tr.lNil ?_
    refine Tr.thenN ?_
    refine Tr.seq ?_
    refine Tr.seq ?_
    refine Tr.region ?_
    refine Tr.val (V.move rfl) rfl ?_
    refine Tr.val (V.len Tryd.runUnderlying73 rfl) rfl ?_
    refine Tr.val (V.move rfl) rfl ?_
    refine Tr.lNil ?_
    refine Tr.thenN ?_
    refine Tr.block ?_
    refine Tr.loop (ι := Nat × Nat × Nat × List Value) (fun x => x.1 ≤ 2 ∧ ((catTo xs ys x.1).map U8 ++ x.2.2.2).length = x.2.2.1) (fun x => [(6, .slice (some ⟨x.2.1, 0, none⟩) (sumTo m1 m2 x.1) x.2.2.1), (25, .slice (some ad) 2 2), (26, .int .i64 2), (27, NV x.1)]) (fun x => [⟨x.2.1, 5, (catTo xs ys x.1).map U8 ++ x.2.2.2⟩]) (fun x => 2 - x.1) (0, y.1, y.2.1, y.2.2) ⟨by simp only; omega, hy.1⟩ (lk_cons rfl (lk_cons rfl (lk_cons rfl (lk_cons rfl (lk_nil _))))) (List.Sublist.refl _) fun x hI => ?_
    obtain ⟨k, g, c, junk⟩ := x
    obtain ⟨hk2, hok⟩ := hI
    simp only at hk2 hok ⊢
    have h3 : k = 0 ∨ k = 1 ∨ k = 2 := by omega
    rcases h3 with rfl | rfl | rfl
    · refine Tr.seq ?_
      refine Tr.region ?_
      refine Tr.val (V.lss (b := true) rfl rfl (decide_eq_true (by omega))) rfl ?_
      refine Tr.lNil ?_
      refine Tr.thenN ?_
      refine Tr.seq ?_
      refine Tr.condT rfl ?_
      refine Tr.skip ?_
      refine Tr.thenN ?_
      refine Tr.seq ?_
      refine Tr.block ?_
      refine Tr.seq ?_
      refine Tr.region ?_
      refine Tr.val (V.idxS (j := 0) Tryd.runUnderlying73 Tryd.sizeOf27 rfl rfl rfl (by omega) rfl) rfl ?_
      refine Tr.val (V.load1 Tryd.isAgg27 rfl (V.cellR (RdP.old hr (fun _ _ => by simp)) (show ([.slice p1 m1 c1, .slice p2 m2 c2] : List Value)[0]? = some (.slice p1 m1 c1) from rfl))) rfl ?_
      refine Tr.val (V.assign rfl) rfl ?_
      refine Tr.lNil ?_
      refine Tr.thenN ?_
      refine Tr.region ?_
      refine Tr.val (V.move rfl) rfl ?_
      refine Tr.val (V.move rfl) rfl ?_
      refine Tr.op (W.append (m := 0) (k := m1) (xs := ([] : List (BitVec 8)).map U8) (vs := xs.map U8) (junk := junk) (L' := fun y => [y]) elem27 rfl rfl hx.old (by rw [List.length_map]; exact hx.length) (one8 _) (fun y => .head) (by rw [List.length_map]; rfl) hok (by omega) (by omega) rfl fun g' c' junk' hc' => ?_)
      rw [← List.map_append, List.nil_append] at hc' ⊢
      refine Tr.val (V.assign rfl) rfl ?_
      refine Tr.lNil ?_
      refine Tr.inN ?_
      refine Tr.thenN ?_
      refine Tr.region ?_
      refine Tr.val (V.add rfl rfl (by omega)) rfl ?_
      refine Tr.val (V.move rfl) rfl ?_
      refine Tr.lNil ?_
      exact Tr.again (1, g', c', junk') ⟨by simp only; omega, hc'⟩ (by first | omega | (simp only; omega)) (lk_cons (by rw [show sumTo m1 m2 1 = 0 + m1 from (Nat.zero_add m1).symm]; rfl) (lk_cons rfl (lk_cons rfl (lk_cons rfl (lk_nil _))))) (List.Sublist.refl _)
    · refine Tr.seq ?_
      refine Tr.region ?_
      refine Tr.val (V.lss (b := true) rfl rfl (decide_eq_true (by omega))) rfl ?_
      refine Tr.lNil ?_
      refine Tr.thenN ?_
      refine Tr.seq ?_
      refine Tr.condT rfl ?_
      refine Tr.skip ?_
      refine Tr.thenN ?_
      refine Tr.seq ?_
      refine Tr.block ?_
      refine Tr.seq ?_
      refine Tr.region ?_
      refine Tr.val (V.idxS (j := 1) Tryd.runUnderlying73 Tryd.sizeOf27 rfl rfl rfl (by omega) rfl) rfl ?_
      refine Tr.val (V.load1 Tryd.isAgg27 rfl (V.cellR (RdP.old hr (fun _ _ => by simp)) (show ([.slice p1 m1 c1, .slice p2 m2 c2] : List Value)[1]? = some (.slice p2 m2 c2) from rfl))) rfl ?_
      refine Tr.val (V.assign rfl) rfl ?_
      refine Tr.lNil ?_
      refine Tr.thenN ?_
      refine Tr.region ?_
      refine Tr.val (V.move rfl) rfl ?_
      refine Tr.val (V.move rfl) rfl ?_
      refine Tr.op (W.append (m := m1) (k := m2) (xs := xs.map U8) (vs := ys.map U8) (junk := junk) (L' := fun y => [y]) elem27 rfl rfl hy2.old (by rw [List.length_map]; exact hy2.length) (one8 _) (fun y => .head) (by rw [List.length_map]; exact hx.length) hok (by omega) (by omega) rfl fun g' c' junk' hc' => ?_)
      rw [← List.map_append] at hc' ⊢
      refine Tr.val (V.assign rfl) rfl ?_
      refine Tr.lNil ?_
      refine Tr.inN ?_
      refine Tr.thenN ?_
      refine Tr.region ?_
      refine Tr.val (V.add rfl rfl (by omega)) rfl ?_
      refine Tr.val (V.move rfl) rfl ?_
      refine Tr.lNil ?_
      exact Tr.again (2, g', c', junk') ⟨by simp only; omega, hc'⟩ (by first | omega | (simp only; omega)) (lk_cons rfl (lk_cons rfl (lk_cons rfl (lk_cons rfl (lk_nil _))))) (List.Sublist.refl _)
    · refine Tr.seq ?_
      refine Tr.region ?_
      refine Tr.val (V.lss (b := false) rfl rfl (decide_eq_false (by omega))) rfl ?_
      refine Tr.lNil ?_
      refine Tr.thenN ?_
      refine Tr.seq ?_
      refine Tr.condF rfl ?_
      refine Tr.exit ?_
      refine Tr.thenX ?_
      refine Tr.thenX ?_
      refine Tr.inHit ?_
      refine Tr.thenN ?_
      refine Tr.seq ?_
      refine Tr.region ?_
      refine Tr.val (V.move rfl) rfl ?_
      refine Tr.val (V.assign rfl) rfl ?_
      refine Tr.lNil ?_
      refine Tr.thenN ?_
      refine Tr.ret ?_
      refine Tr.out1 rfl (Res.tmp rfl) fun w hw => ?_
      exact ⟨⟨g, c, junk⟩, rfl, hw, hok⟩

end Go.Proofs.YtnhfmmohdiccgaaDoor
