/-
  Contracts of package aead: Seal, Open. (Printed by a program of this session over its walk printer.)
-/
import Derived.Test.YtnhfmmohdiccgaaDoorAeadA
namespace Go.Proofs.YtnhfmmohdiccgaaDoor
open Go.Sym Plain
set_option linter.unusedVariables false
set_option maxRecDepth 20000

theorem seal_any (p1 p2 : Option Addr) (m1 c1 m2 c2 : Nat) (key nonce beside b : List (BitVec 8)) (w : World) (hk : key.length = 32) (hn : nonce.length = 12) (hx : Bytes w p1 m1 c1 beside) (hy2 : Bytes w p2 m2 c2 b) (hm1 : m1 ≤ 1000000) (hm2 : m2 ≤ 1000000) (hq0 : RdB w (some ⟨0, 0, none⟩) (qflat.map NV)) :
    Calls Tryd.prog 20 [.agg (key.map U8).toArray, .agg (nonce.map U8).toArray, .slice p1 m1 c1, .slice p2 m2 c2].toArray w fun r w' => ∃ x : Nat × Nat × List Value, r = .returned (.slice (some ⟨x.1, 0, none⟩) (m2 + 16) x.2.1) ∧ Hp w [] [⟨x.1, 5, (sealL key nonce beside b).map U8 ++ x.2.2⟩] w' ∧ ((sealL key nonce beside b).map U8 ++ x.2.2).length = x.2.1 := by
  have hl2 := hy2.length
  have hsl : (streamL key 1#32 nonce b).length = m2 := by rw [streamL_len, hl2]
  refine Tr.enter Tryd.func20 rfl Tryd.ntmps20 rfl (Hp.refl w) ?_
  refine Tr.seq ?_
  refine Tr.region ?_
  refine Tr.op (W.box (cs := key.map U8) rfl rfl rfl fun g4 => ?_)
  refine Tr.op (W.box (cs := nonce.map U8) rfl rfl rfl fun g5 => ?_)
  refine Tr.val (V.assign rfl) rfl ?_
  refine Tr.lNil ?_
  refine Tr.thenN ?_
  refine Tr.seq ?_
  refine Tr.region ?_
  refine Tr.val (V.loadN (cs := key.map U8) Tryd.isAgg23 (by rw [List.length_map, hk]; exact Tryd.sizeOf23) rfl (V.cellsB (by repeat (first | exact List.Mem.head _ | apply List.Mem.tail)))) rfl ?_
  refine Tr.val (V.loadN (cs := nonce.map U8) Tryd.isAgg26 (by rw [List.length_map, hn]; exact Tryd.sizeOf26) rfl (V.cellsB (by repeat (first | exact List.Mem.head _ | apply List.Mem.tail)))) rfl ?_
  refine Tr.val ((V.buildS (vs := [(0, .agg (key.map U8).toArray), (1, .agg (nonce.map U8).toArray)]) (pl := #[(0, 32), (32, 12)]) (cs := (key.map U8 ++ nonce.map U8).toArray) Tryd.runUnderlying59 Tryd.zeroValue59 (fun w => by simp [Tryd.sizeOf23, Tryd.sizeOf26]) (fun a he => by simp [he.eval (x := .tmp 12) (v := .agg (key.map U8).toArray) rfl, he.eval (x := .tmp 13) (v := .agg (nonce.map U8).toArray) rfl]) (fill_two rfl rfl (by rw [List.length_map, hk]) (by rw [List.length_map, hn]) rfl))) rfl ?_
  refine Tr.op (W.alloc (cs := (List.replicate 44 0#8).map U8) Tryd.zeroValue59 rfl rfl fun g9 => ?_)
  refine Tr.op (W.storeAll (vs := (key.map U8 ++ nonce.map U8)) (cs := (List.replicate 44 0#8).map U8) Tryd.sizeOf59 rfl rfl (by rw [List.length_append, List.length_map, List.length_map, hk, hn]) rfl (one88 _ _) (by repeat (first | exact Upd.head | apply Upd.tail)) ?_)
  refine Tr.lNil ?_
  refine Tr.thenN ?_
  refine Tr.seq ?_
  refine Tr.region ?_
  refine Tr.val (V.loadN (cs := (key.map U8 ++ nonce.map U8)) Tryd.isAgg59 (by rw [List.length_append, List.length_map, List.length_map, hk, hn]; exact Tryd.sizeOf59) rfl (V.cellsB (by repeat (first | exact List.Mem.head _ | apply List.Mem.tail)))) rfl ?_
  refine Tr.val (V.move rfl) rfl ?_
  refine Tr.op (W.call (val := fun r0 : Nat × Nat × List Value => .slice (some ⟨r0.1, 0, none⟩) m2 r0.2.1) (N := fun r0 => [⟨r0.1, 5, (streamL key 1#32 nonce b).map U8 ++ r0.2.2⟩]) (Px := fun r0 => ((streamL key 1#32 nonce b).map U8 ++ r0.2.2).length = r0.2.1)  (args2 rfl rfl) Tryd.call31 rfl (fun w1 hw => sstream_any p2 m2 c2 key nonce b w1 hk hn (hy2.now hw) (by omega) ((RdP.old hq0 (fun _ _ => by simp)).now hw)) fun y hy => ?_)
  refine Tr.val (V.assign rfl) rfl ?_
  refine Tr.lNil ?_
  refine Tr.thenN ?_
  refine Tr.seq ?_
  refine Tr.region ?_
  refine Tr.val (V.loadN (cs := (key.map U8 ++ nonce.map U8)) Tryd.isAgg59 (by rw [List.length_append, List.length_map, List.length_map, hk, hn]; exact Tryd.sizeOf59) rfl (V.cellsB (by repeat (first | exact List.Mem.head _ | apply List.Mem.tail)))) rfl ?_
  refine Tr.val (V.move rfl) rfl ?_
  refine Tr.val (V.move rfl) rfl ?_
  refine Tr.op (W.call1 (args3 rfl rfl rfl) Tryd.call32 rfl (fun w1 hw => stag_any p1 (some ⟨y.1, 0, none⟩) m1 c1 m2 y.2.1 key nonce beside (streamL key 1#32 nonce b) w1 hk hn (hx.now hw) (Bytes.own hw (by repeat (first | exact List.Mem.head _ | apply List.Mem.tail)) hsl hy (by omega)) (by omega) (by omega) ((RdP.old hq0 (fun _ _ => by simp)).now hw)) ?_)
  refine Tr.op (W.alloc (cs := (List.replicate 16 0#8).map U8) Tryd.zeroValue61 rfl rfl fun g11 => ?_)
  refine Tr.op (W.storeAll (vs := (tagL key nonce beside (streamL key 1#32 nonce b)).map U8) (cs := (List.replicate 16 0#8).map U8) Tryd.sizeOf61 rfl rfl (by rw [List.length_map, tagL_len]) rfl (one8 _) (by repeat (first | exact Upd.head | apply Upd.tail)) ?_)
  refine Tr.lNil ?_
  refine Tr.thenN ?_
  refine Tr.seq ?_
  refine Tr.region ?_
  refine Tr.val (V.move rfl) rfl ?_
  refine Tr.val (V.sliceW Tryd.runUnderlying61 Tryd.sizeOf5 rfl) rfl ?_
  refine Tr.op (W.build (vs := [.slice (some ⟨y.1, 0, none⟩) m2 y.2.1, .slice (some ⟨g11, 0, none⟩) 16 16]) elem73 (W.parts2 rfl rfl) rfl (by simp [Value.cells]) (by omega) rfl fun g24 => ?_)
  refine Tr.op (W.call (val := fun x : Nat × Nat × List Value => .slice (some ⟨x.1, 0, none⟩) (m2 + 16) x.2.1) (N := fun x => [⟨x.1, 5, (sealL key nonce beside b).map U8 ++ x.2.2⟩]) (Px := fun x => ((sealL key nonce beside b).map U8 ++ x.2.2).length = x.2.1)  (args1 rfl) Tryd.call33 rfl (fun w1 hw => concat_any ⟨g24, 0, none⟩ (some ⟨y.1, 0, none⟩) (some ⟨g11, 0, none⟩) m2 y.2.1 16 16 (streamL key 1#32 nonce b) (tagL key nonce beside (streamL key 1#32 nonce b)) w1 ((RdP.all (by repeat (first | exact List.Mem.head _ | apply List.Mem.tail))).now hw) (Bytes.own hw (by repeat (first | exact List.Mem.head _ | apply List.Mem.tail)) hsl hy (by omega)) ⟨(RdP.all (by repeat (first | exact List.Mem.head _ | apply List.Mem.tail))).now hw, tagL_len _ _ _ _, Nat.le_refl _, by omega, fun h => by cases h⟩ (by omega) (by omega) (by omega)) fun z hz => ?_)
  refine Tr.val (V.assign rfl) rfl ?_
  refine Tr.lNil ?_
  refine Tr.thenN ?_
  refine Tr.ret ?_
  refine Tr.out1 rfl (Res.tmp rfl) fun w hw => ?_
  exact ⟨z, rfl, hw.sub (.cons_cons _ (List.nil_sublist _)), hz⟩

theorem open_short (p1 p2 : Option Addr) (m1 c1 m2 c2 : Nat) (key nonce beside x : List (BitVec 8)) (w : World) (hk : key.length = 32) (hn : nonce.length = 12) (hx : Bytes w p1 m1 c1 beside) (hy2 : Bytes w p2 m2 c2 x) (hm1 : m1 ≤ 1000000) (hm2 : m2 ≤ 1000000) (hs : m2 < 16) (hq0 : RdB w (some ⟨0, 0, none⟩) (qflat.map NV)) :
    Calls Tryd.prog 21 [.agg (key.map U8).toArray, .agg (nonce.map U8).toArray, .slice p1 m1 c1, .slice p2 m2 c2].toArray w fun r w' => r = .returned (.tuple #[.slice none 0 0, .int .i64 3]) ∧ Hp w [] [] w' := by
  refine Tr.enter Tryd.func21 rfl Tryd.ntmps21 rfl (Hp.refl w) ?_
  refine Tr.seq ?_
  refine Tr.region ?_
  refine Tr.op (W.box (cs := key.map U8) rfl rfl rfl fun g4 => ?_)
  refine Tr.op (W.box (cs := nonce.map U8) rfl rfl rfl fun g5 => ?_)
  refine Tr.val (V.assign rfl) rfl ?_
  refine Tr.val (V.assign rfl) rfl ?_
  refine Tr.lNil ?_
  refine Tr.thenN ?_
  refine Tr.seq ?_
  refine Tr.region ?_
  refine Tr.val (V.loadN (cs := key.map U8) Tryd.isAgg23 (by rw [List.length_map, hk]; exact Tryd.sizeOf23) rfl (V.cellsB (by repeat (first | exact List.Mem.head _ | apply List.Mem.tail)))) rfl ?_
  refine Tr.val (V.loadN (cs := nonce.map U8) Tryd.isAgg26 (by rw [List.length_map, hn]; exact Tryd.sizeOf26) rfl (V.cellsB (by repeat (first | exact List.Mem.head _ | apply List.Mem.tail)))) rfl ?_
  refine Tr.val ((V.buildS (vs := [(0, .agg (key.map U8).toArray), (1, .agg (nonce.map U8).toArray)]) (pl := #[(0, 32), (32, 12)]) (cs := (key.map U8 ++ nonce.map U8).toArray) Tryd.runUnderlying59 Tryd.zeroValue59 (fun w => by simp [Tryd.sizeOf23, Tryd.sizeOf26]) (fun a he => by simp [he.eval (x := .tmp 13) (v := .agg (key.map U8).toArray) rfl, he.eval (x := .tmp 14) (v := .agg (nonce.map U8).toArray) rfl]) (fill_two rfl rfl (by rw [List.length_map, hk]) (by rw [List.length_map, hn]) rfl))) rfl ?_
  refine Tr.val (V.move rfl) rfl ?_
  refine Tr.val (V.len Tryd.runUnderlying27 rfl) rfl ?_
  refine Tr.val (V.sub rfl rfl (by omega)) rfl ?_
  refine Tr.op (W.alloc (cs := (List.replicate 44 0#8).map U8) Tryd.zeroValue59 rfl rfl fun g10 => ?_)
  refine Tr.op (W.storeAll (vs := (key.map U8 ++ nonce.map U8)) (cs := (List.replicate 44 0#8).map U8) Tryd.sizeOf59 rfl rfl (by rw [List.length_append, List.length_map, List.length_map, hk, hn]) rfl (one88 _ _) (by repeat (first | exact Upd.head | apply Upd.tail)) ?_)
  refine Tr.val (V.assign rfl) rfl ?_
  refine Tr.lNil ?_
  refine Tr.thenN ?_
  refine Tr.seq ?_
  refine Tr.seq ?_
  refine Tr.region ?_
  refine Tr.val (V.move rfl) rfl ?_
  refine Tr.val (V.lss (b := true) rfl rfl (decide_eq_true (by omega))) rfl ?_
  refine Tr.lNil ?_
  refine Tr.thenN ?_
  refine Tr.condT rfl ?_
  refine Tr.seq ?_
  refine Tr.region ?_
  refine Tr.val (V.assign rfl) rfl ?_
  refine Tr.val (V.assign rfl) rfl ?_
  refine Tr.lNil ?_
  refine Tr.thenN ?_
  refine Tr.ret ?_
  refine Tr.thenR ?_
  refine Tr.out2 rfl (Res.tmp rfl) (Res.tmp rfl) fun w hw => ?_
  exact ⟨rfl, hw.sub (List.nil_sublist _)⟩

theorem open_bad (p1 p2 : Option Addr) (m1 c1 m2 c2 : Nat) (key nonce beside x : List (BitVec 8)) (w : World) (hk : key.length = 32) (hn : nonce.length = 12) (hx : Bytes w p1 m1 c1 beside) (hy2 : Bytes w p2 m2 c2 x) (hm1 : m1 ≤ 1000000) (hm2 : m2 ≤ 1000000) (hs : 16 ≤ m2) (hne : ¬ (tagL key nonce beside (x.take (m2 - 16))) = x.drop (m2 - 16)) (hq0 : RdB w (some ⟨0, 0, none⟩) (qflat.map NV)) :
    Calls Tryd.prog 21 [.agg (key.map U8).toArray, .agg (nonce.map U8).toArray, .slice p1 m1 c1, .slice p2 m2 c2].toArray w fun r w' => r = .returned (.tuple #[.slice none 0 0, .int .i64 3]) ∧ Hp w [] [] w' := by
  have hl2 := hy2.length
  have hle := hy2.le
  have hpt := hy2.part (k := m2 - 16) (by omega)
  have hdr := hy2.drop (m2 - 16) (by omega)
  rw [show m2 - (m2 - 16) = 16 by omega] at hdr
  have heq : decide ((tagL key nonce beside (x.take (m2 - 16))) = x.drop (m2 - 16)) = false := decide_eq_false hne
  refine Tr.enter Tryd.func21 rfl Tryd.ntmps21 rfl (Hp.refl w) ?_
  refine Tr.seq ?_
  refine Tr.region ?_
  refine Tr.op (W.box (cs := key.map U8) rfl rfl rfl fun g4 => ?_)
  refine Tr.op (W.box (cs := nonce.map U8) rfl rfl rfl fun g5 => ?_)
  refine Tr.val (V.assign rfl) rfl ?_
  refine Tr.val (V.assign rfl) rfl ?_
  refine Tr.lNil ?_
  refine Tr.thenN ?_
  refine Tr.seq ?_
  refine Tr.region ?_
  refine Tr.val (V.loadN (cs := key.map U8) Tryd.isAgg23 (by rw [List.length_map, hk]; exact Tryd.sizeOf23) rfl (V.cellsB (by repeat (first | exact List.Mem.head _ | apply List.Mem.tail)))) rfl ?_
  refine Tr.val (V.loadN (cs := nonce.map U8) Tryd.isAgg26 (by rw [List.length_map, hn]; exact Tryd.sizeOf26) rfl (V.cellsB (by repeat (first | exact List.Mem.head _ | apply List.Mem.tail)))) rfl ?_
  refine Tr.val ((V.buildS (vs := [(0, .agg (key.map U8).toArray), (1, .agg (nonce.map U8).toArray)]) (pl := #[(0, 32), (32, 12)]) (cs := (key.map U8 ++ nonce.map U8).toArray) Tryd.runUnderlying59 Tryd.zeroValue59 (fun w => by simp [Tryd.sizeOf23, Tryd.sizeOf26]) (fun a he => by simp [he.eval (x := .tmp 13) (v := .agg (key.map U8).toArray) rfl, he.eval (x := .tmp 14) (v := .agg (nonce.map U8).toArray) rfl]) (fill_two rfl rfl (by rw [List.length_map, hk]) (by rw [List.length_map, hn]) rfl))) rfl ?_
  refine Tr.val (V.move rfl) rfl ?_
  refine Tr.val (V.len Tryd.runUnderlying27 rfl) rfl ?_
  refine Tr.val (V.subN (b := 16) rfl rfl (by omega) (by omega)) rfl ?_
  refine Tr.op (W.alloc (cs := (List.replicate 44 0#8).map U8) Tryd.zeroValue59 rfl rfl fun g10 => ?_)
  refine Tr.op (W.storeAll (vs := (key.map U8 ++ nonce.map U8)) (cs := (List.replicate 44 0#8).map U8) Tryd.sizeOf59 rfl rfl (by rw [List.length_append, List.length_map, List.length_map, hk, hn]) rfl (one88 _ _) (by repeat (first | exact Upd.head | apply Upd.tail)) ?_)
  refine Tr.val (V.assign rfl) rfl ?_
  refine Tr.lNil ?_
  refine Tr.thenN ?_
  refine Tr.seq ?_
  refine Tr.seq ?_
  refine Tr.region ?_
  refine Tr.val (V.move rfl) rfl ?_
  refine Tr.val (V.lss (b := false) rfl rfl (decide_eq_false (by omega))) rfl ?_
  refine Tr.lNil ?_
  refine Tr.thenN ?_
  refine Tr.condF rfl ?_
  refine Tr.skip ?_
  refine Tr.thenN ?_
  refine Tr.seq ?_
  refine Tr.seq ?_
  refine Tr.regionD [0, 0, 0, 0, 12, 31, 0, 127] [7] (.soft 0 (.pure 1 (.pure 2 (.pure 3 (.pure 4 (.soft 5 (.hard 6 (.hard 7 .done)))))))) mixed (by kernel_rfl) ?_
  refine TrP.soft rfl (V.loadN (cs := (key.map U8 ++ nonce.map U8)) Tryd.isAgg59 (by rw [List.length_append, List.length_map, List.length_map, hk, hn]; exact Tryd.sizeOf59) rfl (V.cellsB (by repeat (first | exact List.Mem.head _ | apply List.Mem.tail)))) rfl ?_
  refine TrP.pure rfl (fun _ => V.move rfl) rfl ?_
  refine TrP.pure rfl (fun _ => V.move rfl) rfl ?_
  refine TrP.pure rfl (fun _ => V.move rfl) rfl ?_
  refine TrP.pure rfl (fun _ => V.cut Tryd.runUnderlying27 Tryd.sizeOf5 rfl rfl (by omega)) rfl ?_
  refine TrP.call rfl (args3 rfl rfl rfl) Tryd.call32 rfl (fun w1 hw => stag_any p1 p2 m1 c1 (m2 - 16) c2 key nonce beside (x.take (m2 - 16)) w1 hk hn (hx.now hw) (hpt.now hw) (by omega) (by omega) ((RdP.old hq0 (fun _ _ => by simp)).now hw)) ?_
  refine TrP.hard rfl (W.alloc (cs := (List.replicate 16 0#8).map U8) Tryd.zeroValue61 rfl rfl fun g12 => ?_)
  refine Tr.pOn (by first | exact List.Sublist.refl _ | exact List.sublist_cons_self _ _ | exact List.sublist_append_right _ _ | simp) ?_
  refine TrP.hard rfl (W.storeAll (vs := (tagL key nonce beside (x.take (m2 - 16))).map U8) (cs := (List.replicate 16 0#8).map U8) Tryd.sizeOf61 rfl rfl (by rw [List.length_map, tagL_len]) rfl (one8 _) (by repeat (first | exact Upd.head | apply Upd.tail)) ?_)
  refine Tr.pTail rfl ?_
  refine TrP.done ?_
  refine Tr.thenN ?_
  refine Tr.seq ?_
  refine Tr.regionD [0, 0, 0, 6, 15, 31] [] (.pure 0 (.pure 1 (.pure 2 (.pure 3 (.soft 4 (.pure 5 .done)))))) mixed (by kernel_rfl) ?_
  refine TrP.pure rfl (fun _ => V.sliceW Tryd.runUnderlying61 Tryd.sizeOf5 rfl) rfl ?_
  refine TrP.pure rfl (fun _ => V.move rfl) rfl ?_
  refine TrP.pure rfl (fun _ => V.move rfl) rfl ?_
  refine TrP.pure rfl (fun _ => (by rw [show ((.slice (if c2 = m2 - 16 then p2 else p2.map (·.add (m2 - 16))) 16 (c2 - (m2 - 16))) : Value) = (.slice (if c2 = m2 - 16 then p2 else p2.map (·.add (m2 - 16))) (m2 - (m2 - 16)) (c2 - (m2 - 16))) by rw [show m2 - (m2 - 16) = 16 by omega]]; exact V.sliceS (l := m2 - 16) Tryd.runUnderlying27 Tryd.sizeOf5 rfl rfl rfl rfl rfl (by omega) (by omega) : VOp Tryd.prog _ _ _ _ _ _ _ (.slice (if c2 = m2 - 16 then p2 else p2.map (·.add (m2 - 16))) 16 (c2 - (m2 - 16))))) rfl ?_
  refine TrP.call rfl (args2 rfl rfl) Tryd.call34 rfl (fun w1 hw => by have h := same_any (some ⟨g12, 0, none⟩) (if c2 = m2 - 16 then p2 else p2.map (·.add (m2 - 16))) 16 16 16 (c2 - (m2 - 16)) (tagL key nonce beside (x.take (m2 - 16))) (x.drop (m2 - 16)) w1 ((RdP.all (by repeat (first | exact List.Mem.head _ | apply List.Mem.tail))).now hw) (hdr.now hw).rd (tagL_len _ _ _ _) hdr.length (by omega) (by omega); rw [heq] at h; exact h) ?_
  refine TrP.pure rfl (fun _ => V.not rfl) rfl ?_
  refine TrP.done ?_
  refine Tr.thenN ?_
  refine Tr.condT rfl ?_
  refine Tr.seq ?_
  refine Tr.region ?_
  refine Tr.val (V.assign rfl) rfl ?_
  refine Tr.val (V.assign rfl) rfl ?_
  refine Tr.lNil ?_
  refine Tr.thenN ?_
  refine Tr.ret ?_
  refine Tr.thenR ?_
  refine Tr.out2 rfl (Res.tmp rfl) (Res.tmp rfl) fun w hw => ?_
  exact ⟨rfl, hw.sub (List.nil_sublist _)⟩

theorem open_ok (p1 p2 : Option Addr) (m1 c1 m2 c2 : Nat) (key nonce beside x : List (BitVec 8)) (w : World) (hk : key.length = 32) (hn : nonce.length = 12) (hx : Bytes w p1 m1 c1 beside) (hy2 : Bytes w p2 m2 c2 x) (hm1 : m1 ≤ 1000000) (hm2 : m2 ≤ 1000000) (hs : 16 ≤ m2) (hne : (tagL key nonce beside (x.take (m2 - 16))) = x.drop (m2 - 16)) (hq0 : RdB w (some ⟨0, 0, none⟩) (qflat.map NV)) :
    Calls Tryd.prog 21 [.agg (key.map U8).toArray, .agg (nonce.map U8).toArray, .slice p1 m1 c1, .slice p2 m2 c2].toArray w fun r w' => ∃ y : Nat × Nat × List Value, r = .returned (.tuple #[.slice (some ⟨y.1, 0, none⟩) (m2 - 16) y.2.1, .int .i64 0]) ∧ Hp w [] [⟨y.1, 5, (streamL key 1#32 nonce (x.take (m2 - 16))).map U8 ++ y.2.2⟩] w' ∧ ((streamL key 1#32 nonce (x.take (m2 - 16))).map U8 ++ y.2.2).length = y.2.1 := by
  have hl2 := hy2.length
  have hle := hy2.le
  have hpt := hy2.part (k := m2 - 16) (by omega)
  have hdr := hy2.drop (m2 - 16) (by omega)
  rw [show m2 - (m2 - 16) = 16 by omega] at hdr
  have heq : decide ((tagL key nonce beside (x.take (m2 - 16))) = x.drop (m2 - 16)) = true := decide_eq_true hne
  refine Tr.enter Tryd.func21 rfl Tryd.ntmps21 rfl (Hp.refl w) ?_
  refine Tr.seq ?_
  refine Tr.region ?_
  refine Tr.op (W.box (cs := key.map U8) rfl rfl rfl fun g4 => ?_)
  refine Tr.op (W.box (cs := nonce.map U8) rfl rfl rfl fun g5 => ?_)
  refine Tr.val (V.assign rfl) rfl ?_
  refine Tr.val (V.assign rfl) rfl ?_
  refine Tr.lNil ?_
  refine Tr.thenN ?_
  refine Tr.seq ?_
  refine Tr.region ?_
  refine Tr.val (V.loadN (cs := key.map U8) Tryd.isAgg23 (by rw [List.length_map, hk]; exact Tryd.sizeOf23) rfl (V.cellsB (by repeat (first | exact List.Mem.head _ | apply List.Mem.tail)))) rfl ?_
  refine Tr.val (V.loadN (cs := nonce.map U8) Tryd.isAgg26 (by rw [List.length_map, hn]; exact Tryd.sizeOf26) rfl (V.cellsB (by repeat (first | exact List.Mem.head _ | apply List.Mem.tail)))) rfl ?_
  refine Tr.val ((V.buildS (vs := [(0, .agg (key.map U8).toArray), (1, .agg (nonce.map U8).toArray)]) (pl := #[(0, 32), (32, 12)]) (cs := (key.map U8 ++ nonce.map U8).toArray) Tryd.runUnderlying59 Tryd.zeroValue59 (fun w => by simp [Tryd.sizeOf23, Tryd.sizeOf26]) (fun a he => by simp [he.eval (x := .tmp 13) (v := .agg (key.map U8).toArray) rfl, he.eval (x := .tmp 14) (v := .agg (nonce.map U8).toArray) rfl]) (fill_two rfl rfl (by rw [List.length_map, hk]) (by rw [List.length_map, hn]) rfl))) rfl ?_
  refine Tr.val (V.move rfl) rfl ?_
  refine Tr.val (V.len Tryd.runUnderlying27 rfl) rfl ?_
  refine Tr.val (V.subN (b := 16) rfl rfl (by omega) (by omega)) rfl ?_
  refine Tr.op (W.alloc (cs := (List.replicate 44 0#8).map U8) Tryd.zeroValue59 rfl rfl fun g10 => ?_)
  refine Tr.op (W.storeAll (vs := (key.map U8 ++ nonce.map U8)) (cs := (List.replicate 44 0#8).map U8) Tryd.sizeOf59 rfl rfl (by rw [List.length_append, List.length_map, List.length_map, hk, hn]) rfl (one88 _ _) (by repeat (first | exact Upd.head | apply Upd.tail)) ?_)
  refine Tr.val (V.assign rfl) rfl ?_
  refine Tr.lNil ?_
  refine Tr.thenN ?_
  refine Tr.seq ?_
  refine Tr.seq ?_
  refine Tr.region ?_
  refine Tr.val (V.move rfl) rfl ?_
  refine Tr.val (V.lss (b := false) rfl rfl (decide_eq_false (by omega))) rfl ?_
  refine Tr.lNil ?_
  refine Tr.thenN ?_
  refine Tr.condF rfl ?_
  refine Tr.skip ?_
  refine Tr.thenN ?_
  refine Tr.seq ?_
  refine Tr.seq ?_
  refine Tr.regionD [0, 0, 0, 0, 12, 31, 0, 127] [7] (.soft 0 (.pure 1 (.pure 2 (.pure 3 (.pure 4 (.soft 5 (.hard 6 (.hard 7 .done)))))))) mixed (by kernel_rfl) ?_
  refine TrP.soft rfl (V.loadN (cs := (key.map U8 ++ nonce.map U8)) Tryd.isAgg59 (by rw [List.length_append, List.length_map, List.length_map, hk, hn]; exact Tryd.sizeOf59) rfl (V.cellsB (by repeat (first | exact List.Mem.head _ | apply List.Mem.tail)))) rfl ?_
  refine TrP.pure rfl (fun _ => V.move rfl) rfl ?_
  refine TrP.pure rfl (fun _ => V.move rfl) rfl ?_
  refine TrP.pure rfl (fun _ => V.move rfl) rfl ?_
  refine TrP.pure rfl (fun _ => V.cut Tryd.runUnderlying27 Tryd.sizeOf5 rfl rfl (by omega)) rfl ?_
  refine TrP.call rfl (args3 rfl rfl rfl) Tryd.call32 rfl (fun w1 hw => stag_any p1 p2 m1 c1 (m2 - 16) c2 key nonce beside (x.take (m2 - 16)) w1 hk hn (hx.now hw) (hpt.now hw) (by omega) (by omega) ((RdP.old hq0 (fun _ _ => by simp)).now hw)) ?_
  refine TrP.hard rfl (W.alloc (cs := (List.replicate 16 0#8).map U8) Tryd.zeroValue61 rfl rfl fun g12 => ?_)
  refine Tr.pOn (by first | exact List.Sublist.refl _ | exact List.sublist_cons_self _ _ | exact List.sublist_append_right _ _ | simp) ?_
  refine TrP.hard rfl (W.storeAll (vs := (tagL key nonce beside (x.take (m2 - 16))).map U8) (cs := (List.replicate 16 0#8).map U8) Tryd.sizeOf61 rfl rfl (by rw [List.length_map, tagL_len]) rfl (one8 _) (by repeat (first | exact Upd.head | apply Upd.tail)) ?_)
  refine Tr.pTail rfl ?_
  refine TrP.done ?_
  refine Tr.thenN ?_
  refine Tr.seq ?_
  refine Tr.regionD [0, 0, 0, 6, 15, 31] [] (.pure 0 (.pure 1 (.pure 2 (.pure 3 (.soft 4 (.pure 5 .done)))))) mixed (by kernel_rfl) ?_
  refine TrP.pure rfl (fun _ => V.sliceW Tryd.runUnderlying61 Tryd.sizeOf5 rfl) rfl ?_
  refine TrP.pure rfl (fun _ => V.move rfl) rfl ?_
  refine TrP.pure rfl (fun _ => V.move rfl) rfl ?_
  refine TrP.pure rfl (fun _ => (by rw [show ((.slice (if c2 = m2 - 16 then p2 else p2.map (·.add (m2 - 16))) 16 (c2 - (m2 - 16))) : Value) = (.slice (if c2 = m2 - 16 then p2 else p2.map (·.add (m2 - 16))) (m2 - (m2 - 16)) (c2 - (m2 - 16))) by rw [show m2 - (m2 - 16) = 16 by omega]]; exact V.sliceS (l := m2 - 16) Tryd.runUnderlying27 Tryd.sizeOf5 rfl rfl rfl rfl rfl (by omega) (by omega) : VOp Tryd.prog _ _ _ _ _ _ _ (.slice (if c2 = m2 - 16 then p2 else p2.map (·.add (m2 - 16))) 16 (c2 - (m2 - 16))))) rfl ?_
  refine TrP.call rfl (args2 rfl rfl) Tryd.call34 rfl (fun w1 hw => by have h := same_any (some ⟨g12, 0, none⟩) (if c2 = m2 - 16 then p2 else p2.map (·.add (m2 - 16))) 16 16 16 (c2 - (m2 - 16)) (tagL key nonce beside (x.take (m2 - 16))) (x.drop (m2 - 16)) w1 ((RdP.all (by repeat (first | exact List.Mem.head _ | apply List.Mem.tail))).now hw) (hdr.now hw).rd (tagL_len _ _ _ _) hdr.length (by omega) (by omega); rw [heq] at h; exact h) ?_
  refine TrP.pure rfl (fun _ => V.not rfl) rfl ?_
  refine TrP.done ?_
  refine Tr.thenN ?_
  refine Tr.condF rfl ?_
  refine Tr.skip ?_
  refine Tr.thenN ?_
  refine Tr.seq ?_
  refine Tr.regionD [0, 0, 0, 6, 15, 31, 63] [] (.soft 0 (.pure 1 (.pure 2 (.pure 3 (.hard 4 (.pure 5 (.pure 6 .done))))))) mixed (by kernel_rfl) ?_
  refine TrP.soft rfl (V.loadN (cs := (key.map U8 ++ nonce.map U8)) Tryd.isAgg59 (by rw [List.length_append, List.length_map, List.length_map, hk, hn]; exact Tryd.sizeOf59) rfl (V.cellsB (by repeat (first | exact List.Mem.head _ | apply List.Mem.tail)))) rfl ?_
  refine TrP.pure rfl (fun _ => V.move rfl) rfl ?_
  refine TrP.pure rfl (fun _ => V.move rfl) rfl ?_
  refine TrP.pure rfl (fun _ => V.cut Tryd.runUnderlying27 Tryd.sizeOf5 rfl rfl (by omega)) rfl ?_
  refine TrP.hard rfl (W.call (val := fun r0 : Nat × Nat × List Value => .slice (some ⟨r0.1, 0, none⟩) (m2 - 16) r0.2.1) (N := fun r0 => [⟨r0.1, 5, (streamL key 1#32 nonce (x.take (m2 - 16))).map U8 ++ r0.2.2⟩]) (Px := fun r0 => ((streamL key 1#32 nonce (x.take (m2 - 16))).map U8 ++ r0.2.2).length = r0.2.1)  (args2 rfl rfl) Tryd.call31 rfl (fun w1 hw => sstream_any p2 (m2 - 16) c2 key nonce (x.take (m2 - 16)) w1 hk hn (hpt.now hw) (by omega) ((RdP.old hq0 (fun _ _ => by simp)).now hw)) fun y hy => ?_)
  refine Tr.pOn (by first | exact List.Sublist.refl _ | exact List.sublist_cons_self _ _ | exact List.sublist_append_right _ _ | simp) ?_
  refine TrP.pure rfl (fun _ => V.assign rfl) rfl ?_
  refine TrP.pure rfl (fun _ => V.assign rfl) rfl ?_
  refine TrP.done ?_
  refine Tr.thenN ?_
  refine Tr.ret ?_
  refine Tr.out2 rfl (Res.tmp rfl) (Res.tmp rfl) fun w hw => ?_
  exact ⟨y, rfl, hw.sub (.cons_cons _ (List.nil_sublist _)), hy⟩

end Go.Proofs.YtnhfmmohdiccgaaDoor
