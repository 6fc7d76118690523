/-
  Contracts of hatchwayref04: filled, Tag, Seal. (Printed by a program of this session over its walk printer.)
-/
import Derived.Test.YtnhfmmohdiccgaaDoorPlainLaw4
import Derived.Test.YtnhfmmohdiccgaaDoorRef2B
import Derived.Test.YtnhfmmohdiccgaaDoorRef3D
import Derived.Test.YtnhfmmohdiccgaaDoorSymM
namespace Go.Proofs.YtnhfmmohdiccgaaDoor
open Go.Sym Plain
set_option linter.unusedVariables false
set_option maxRecDepth 20000

theorem filled_any (p : Option Addr) (m c : Nat) (b : List (BitVec 8)) (w : World) (hx : Bytes w p m c b) (hm : m ≤ 100000) :
    Calls Tryd.prog 44 [.slice p m c].toArray w fun r w' => ∃ x : Nat × Nat × List Value, r = .returned (.slice (some ⟨x.1, 0, none⟩) (m + padN m) x.2.1) ∧ Hp w [] [⟨x.1, 5, (padB b).map U8 ++ x.2.2⟩] w' ∧ ((padB b).map U8 ++ x.2.2).length = x.2.1 := by
  have hl := hx.length
  have hpad : padN m = (16 - m % 16) % 16 := rfl
  refine Tr.enter Tryd.func44 rfl Tryd.ntmps44 rfl (Hp.refl w) ?_
  refine Tr.seq ?_
  refine Tr.region ?_
  refine Tr.val (V.assign rfl) rfl ?_
  refine Tr.lNil ?_
  refine Tr.thenN ?_
  refine Tr.seq ?_
  refine Tr.region ?_
  refine Tr.op (W.build elem27 W.parts0 rfl (by simp) (by omega) rfl fun g4 => ?_)
  refine Tr.val (V.move rfl) rfl ?_
  refine Tr.op (W.append (m := 0) (k := m) (xs := []) (vs := b.map U8) (junk := []) (L' := fun z => [z]) elem27 rfl rfl hx.old (by rw [List.length_map]; exact hl) (one8 _) (fun z => .head) rfl rfl (by omega) (by omega) rfl fun g c0 j6 hc6 => ?_)
  rw [List.nil_append] at hc6 ⊢
  refine Tr.val (V.assign rfl) rfl ?_
  refine Tr.lNil ?_
  refine Tr.thenN ?_
  refine Tr.seq ?_
  refine Tr.block ?_
  refine Tr.loop (ι := Nat × Nat × Nat × List Value) (fun x => x.1 ≤ padN m ∧ ((b ++ List.replicate x.1 0#8).map U8 ++ x.2.2.2).length = x.2.2.1) (fun x => [(3, .slice (some ⟨x.2.1, 0, none⟩) (m + x.1) x.2.2.1)]) (fun x => [⟨x.2.1, 5, (b ++ List.replicate x.1 0#8).map U8 ++ x.2.2.2⟩]) (fun x => padN m - x.1) (0, g, c0, j6) ⟨Nat.zero_le _, by simpa using hc6⟩ (lk_cons (congrArg some (by simp)) (lk_nil _)) (by simp) fun x hI => ?_
  obtain ⟨j, g, c1, junk⟩ := x
  obtain ⟨hj, hok⟩ := hI
  simp only at hj hok ⊢
  refine Tr.seq ?_
  refine Tr.seq ?_
  refine Tr.region ?_
  refine Tr.val (V.move rfl) rfl ?_
  refine Tr.val (V.len Tryd.runUnderlying27 rfl) rfl ?_
  refine Tr.val (V.remN (b := 16) rfl rfl (by omega)) rfl ?_
  refine Tr.val (V.neq rfl rfl rfl) rfl ?_
  refine Tr.lNil ?_
  refine Tr.thenN ?_
  refine Tr.cond rfl (fun hT0 => ?_) (fun hF0 => ?_)
  · simp only [decide_eq_true_eq, Bool.not_eq_true', decide_eq_false_iff_not] at hT0
    have hne : ¬ (m + j) % 16 = 0 := by intro h; apply hT0; omega
    refine Tr.skip ?_
    refine Tr.thenN ?_
    refine Tr.block ?_
    refine Tr.region ?_
    refine Tr.val (V.move rfl) rfl ?_
    refine Tr.op (W.build (vs := [U8 0#8]) elem27 (W.parts1 rfl) rfl (by simp [Value.cells]) (by omega) rfl fun g12 => ?_)
    refine Tr.op (W.append (m := m + j) (k := 1) (xs := (b ++ List.replicate j 0#8).map U8) (vs := [U8 0#8]) (junk := junk) (L' := fun z => [⟨g12, 5, [U8 0#8]⟩, z]) elem27 rfl rfl (RdP.blk (cs := [U8 0#8]) (List.Mem.head _) 0 1) rfl (by simp [Value.oneCell']) (fun z => .tail .head) (by rw [List.length_map, List.length_append, List.length_replicate, hl]) hok (by omega) (by omega) rfl fun g' c' junk' hc' => ?_)
    rw [show (b ++ List.replicate j 0#8).map U8 ++ [U8 0#8] = (b ++ List.replicate (j + 1) 0#8).map U8 by rw [List.replicate_succ', ← List.append_assoc, List.map_append (l₂ := [0#8])]; rfl] at hc' ⊢
    refine Tr.val (V.assign rfl) rfl ?_
    refine Tr.lNil ?_
    refine Tr.inN ?_
    exact Tr.again (j + 1, g', c', junk') ⟨by simp only; omega, hc'⟩ (by simp only; omega) (lk_cons rfl (lk_nil _)) (List.sublist_cons_self _ _)
  · simp only [Bool.not_eq_false', decide_eq_true_eq, decide_eq_false_iff_not, Decidable.not_not] at hF0
    have hz : (m + j) % 16 = 0 := by omega
    obtain hjp : j = padN m := by omega
    have hB : (b ++ List.replicate j 0#8) = padB b := by rw [padB, hl, hjp]
    rw [hB] at hok ⊢
    rw [hjp]
    refine Tr.exit ?_
    refine Tr.thenX ?_
    refine Tr.thenX ?_
    refine Tr.inHit ?_
    refine Tr.thenN ?_
    refine Tr.seq ?_
    refine Tr.region ?_
    refine Tr.val (V.move rfl) rfl ?_
    refine Tr.val (V.assign rfl) rfl ?_
    refine Tr.lNil ?_
    refine Tr.thenN ?_
    refine Tr.ret ?_
    refine Tr.out1 rfl (Res.tmp rfl) fun w hw => ?_
    exact ⟨⟨g, c1, junk⟩, rfl, hw, hok⟩

set_option maxHeartbeats 1000000 in
theorem rtag_any (p p2 p3 p4 : Option Addr) (c c2 m1 c3 m2 c4 : Nat) (key nonce beside enc : List (BitVec 8)) (w : World) (hk : Bytes w p 32 c key) (hn : Bytes w p2 12 c2 nonce) (hx : Bytes w p3 m1 c3 beside) (hy2 : Bytes w p4 m2 c4 enc) (hm1 : m1 ≤ 1000) (hm2 : m2 ≤ 1000) :
    Calls Tryd.prog 35 [.slice p 32 c, .slice p2 12 c2, .slice p3 m1 c3, .slice p4 m2 c4].toArray w fun r w' => ∃ g : Nat, r = .returned (.slice (some ⟨g, 0, none⟩) 16 16) ∧ Hp w [] [⟨g, 5, (tagL key nonce beside enc).map U8⟩] w' ∧ True := by
  have hl1 := hx.length
  have hl2 := hy2.length
  have hp1 := padN_lt m1
  have hp2 := padN_lt m2
  have hpl1 : (padB beside).length = m1 + padN m1 := by rw [padB_len, hl1]
  have hpl2 : (padB enc).length = m2 + padN m2 := by rw [padB_len, hl2]
  have ha2 : (padB beside ++ padB enc).length = (m1 + padN m1 + (m2 + padN m2)) := by rw [List.length_append, hpl1, hpl2]
  have ha3 : (padB beside ++ padB enc ++ putL (BitVec.ofNat 64 m1) 8).length = (m1 + padN m1 + (m2 + padN m2)) + 8 := by rw [List.length_append, ha2, putL_len]
  have ha4 : (authB beside enc).length = (m1 + padN m1 + (m2 + padN m2)) + 8 + 8 := by rw [authB, List.length_append, List.length_append, List.length_append, hpl1, hpl2, putL_len, putL_len]
  refine Tr.enter Tryd.func35 rfl Tryd.ntmps35 rfl (Hp.refl w) ?_
  refine Tr.seq ?_
  refine Tr.region ?_
  refine Tr.val (V.assign rfl) rfl ?_
  refine Tr.lNil ?_
  refine Tr.thenN ?_
  refine Tr.seq ?_
  refine Tr.region ?_
  refine Tr.val (V.move rfl) rfl ?_
  refine Tr.op (W.call (val := fun r0 : Nat × Nat × List Value => .slice (some ⟨r0.1, 0, none⟩) (m1 + padN m1) r0.2.1) (N := fun r0 => [⟨r0.1, 5, (padB beside).map U8 ++ r0.2.2⟩]) (Px := fun r0 => ((padB beside).map U8 ++ r0.2.2).length = r0.2.1)  (args1 rfl) Tryd.call44 rfl (fun w1 hw => filled_any p3 m1 c3 beside w1 (hx.now hw) (by omega)) fun y hy => ?_)
  refine Tr.val (V.move rfl) rfl ?_
  refine Tr.op (W.call (val := fun r0 : Nat × Nat × List Value => .slice (some ⟨r0.1, 0, none⟩) (m2 + padN m2) r0.2.1) (N := fun r0 => [⟨r0.1, 5, (padB enc).map U8 ++ r0.2.2⟩]) (Px := fun r0 => ((padB enc).map U8 ++ r0.2.2).length = r0.2.1)  (args1 rfl) Tryd.call44 rfl (fun w1 hw => filled_any p4 m2 c4 enc w1 (hy2.now hw) (by omega)) fun z hz => ?_)
  refine Tr.op (W.append (m := m1 + padN m1) (k := m2 + padN m2) (xs := (padB beside).map U8) (vs := (padB enc).map U8) (junk := y.2.2) (L' := fun q => [⟨z.1, 5, (padB enc).map U8 ++ z.2.2⟩, q]) elem27 rfl rfl (RdP.headL (by repeat (first | exact List.Mem.head _ | apply List.Mem.tail))) (by rw [List.length_map, hpl2]) (one8 _) (fun q => .tail .head) (by rw [List.length_map, hpl1]) hy (by omega) (by omega) rfl fun g14 c14 j14 hc14 => ?_)
  rw [← List.map_append] at hc14 ⊢
  refine Tr.val (V.assign rfl) rfl ?_
  refine Tr.lNil ?_
  refine Tr.thenN ?_
  refine Tr.seq ?_
  refine Tr.region ?_
  refine Tr.val (V.move rfl) rfl ?_
  refine Tr.val (V.move rfl) rfl ?_
  refine Tr.val (V.len Tryd.runUnderlying27 rfl) rfl ?_
  refine Tr.val (V.convB_64 (a := m1) Tryd.runUnderlying3 Tryd.runUnderlying53 rfl) rfl ?_
  refine Tr.op (W.call (val := fun r0 : Nat × Nat × List Value => .slice (some ⟨r0.1, 0, none⟩) ((m1 + padN m1 + (m2 + padN m2)) + 8) r0.2.1) (N := fun r0 => [⟨r0.1, 5, (padB beside ++ padB enc ++ putL (BitVec.ofNat 64 m1) 8).map U8 ++ r0.2.2⟩]) (Px := fun r0 => ((padB beside ++ padB enc ++ putL (BitVec.ofNat 64 m1) 8).map U8 ++ r0.2.2).length = r0.2.1)  (args4 rfl rfl rfl rfl) Tryd.call29 rfl (fun w1 hw => by have h := rput_any (some ⟨g14, 0, none⟩) (m1 + padN m1 + (m2 + padN m2)) c14 (padB beside ++ padB enc) 8 (BitVec.ofNat 64 m1) false w1 ((RdP.headL (by repeat (first | exact List.Mem.head _ | apply List.Mem.tail))).now hw) ha2 (by omega); rw [show effI 8 = 8 from by decide, show (padB beside ++ padB enc) ++ putW false (BitVec.ofNat 64 m1) 8 = (padB beside ++ padB enc ++ putL (BitVec.ofNat 64 m1) 8) from rfl] at h; exact h) fun s hs => ?_)
  refine Tr.val (V.assign rfl) rfl ?_
  refine Tr.lNil ?_
  refine Tr.thenN ?_
  refine Tr.seq ?_
  refine Tr.region ?_
  refine Tr.val (V.move rfl) rfl ?_
  refine Tr.val (V.move rfl) rfl ?_
  refine Tr.val (V.len Tryd.runUnderlying27 rfl) rfl ?_
  refine Tr.val (V.convB_64 (a := m2) Tryd.runUnderlying3 Tryd.runUnderlying53 rfl) rfl ?_
  refine Tr.op (W.call (val := fun r0 : Nat × Nat × List Value => .slice (some ⟨r0.1, 0, none⟩) (((m1 + padN m1 + (m2 + padN m2)) + 8) + 8) r0.2.1) (N := fun r0 => [⟨r0.1, 5, (authB beside enc).map U8 ++ r0.2.2⟩]) (Px := fun r0 => ((authB beside enc).map U8 ++ r0.2.2).length = r0.2.1)  (args4 rfl rfl rfl rfl) Tryd.call29 rfl (fun w1 hw => by have h := rput_any (some ⟨s.1, 0, none⟩) ((m1 + padN m1 + (m2 + padN m2)) + 8) s.2.1 (padB beside ++ padB enc ++ putL (BitVec.ofNat 64 m1) 8) 8 (BitVec.ofNat 64 m2) false w1 ((RdP.headL (by repeat (first | exact List.Mem.head _ | apply List.Mem.tail))).now hw) ha3 (by omega); rw [show effI 8 = 8 from by decide, show (padB beside ++ padB enc ++ putL (BitVec.ofNat 64 m1) 8) ++ putW false (BitVec.ofNat 64 m2) 8 = (authB beside enc) from (by rw [authB, hl1, hl2]; rfl)] at h; exact h) fun t ht => ?_)
  refine Tr.val (V.assign rfl) rfl ?_
  refine Tr.lNil ?_
  refine Tr.thenN ?_
  refine Tr.seq ?_
  refine Tr.region ?_
  refine Tr.val (V.move rfl) rfl ?_
  refine Tr.val (V.move rfl) rfl ?_
  refine Tr.op (W.call (val := fun r0 : Nat × Nat × List Value => .slice (some ⟨r0.1, 0, none⟩) 64 r0.2.1) (N := fun r0 => [⟨r0.1, 5, (blockL key 0#32 nonce).map U8 ++ r0.2.2⟩]) (Px := fun r0 => ((blockL key 0#32 nonce).map U8 ++ r0.2.2).length = r0.2.1) (vs := [_, U32 0#32, _]) (args3 rfl rfl rfl) Tryd.call17 rfl (fun w1 hw => block2_any p p2 c c2 key 0#32 nonce w1 (hk.now hw) (hn.now hw)) fun v hv => ?_)
  refine Tr.val (V.cut (h := 32) Tryd.runUnderlying27 Tryd.sizeOf5 rfl rfl (by have h1 := congrArg (· + 0) hv; rw [List.length_append, List.length_map, blockL_len] at hv; omega)) rfl ?_
  refine Tr.val (V.move rfl) rfl ?_
  refine Tr.op (W.call (val := fun g : Nat => .slice (some ⟨g, 0, none⟩) 16 16) (N := fun g => [⟨g, 5, (tagL key nonce beside enc).map U8⟩]) (Px := fun _ => True)  (args2 rfl rfl) Tryd.call45 rfl (fun w1 hw => rsum_any (some ⟨v.1, 0, none⟩) (some ⟨t.1, 0, none⟩) v.2.1 ((m1 + padN m1 + (m2 + padN m2)) + 8 + 8) t.2.1 (otk key nonce) (authB beside enc) w1 ((Bytes.own hw (by repeat (first | exact List.Mem.head _ | apply List.Mem.tail)) (blockL_len _ _ _) hv (by omega)).part (by omega)) (Bytes.own hw (by repeat (first | exact List.Mem.head _ | apply List.Mem.tail)) ha4 ht (by omega)) (by omega)) fun g _ => ?_)
  refine Tr.val (V.assign rfl) rfl ?_
  refine Tr.lNil ?_
  refine Tr.thenN ?_
  refine Tr.ret ?_
  refine Tr.out1 rfl (Res.tmp rfl) fun w hw => ?_
  exact ⟨g, rfl, hw.sub (.cons_cons _ (List.nil_sublist _)), trivial⟩

theorem rseal_any (p p2 p3 p4 : Option Addr) (c c2 m1 c3 m2 c4 : Nat) (key nonce beside b : List (BitVec 8)) (w : World) (hk : Bytes w p 32 c key) (hn : Bytes w p2 12 c2 nonce) (hx : Bytes w p3 m1 c3 beside) (hy2 : Bytes w p4 m2 c4 b) (hm1 : m1 ≤ 1000) (hm2 : m2 ≤ 1000) :
    Calls Tryd.prog 22 [.slice p 32 c, .slice p2 12 c2, .slice p3 m1 c3, .slice p4 m2 c4].toArray w fun r w' => ∃ x : Nat × Nat × List Value, r = .returned (.slice (some ⟨x.1, 0, none⟩) (m2 + 16) x.2.1) ∧ Hp w [] [⟨x.1, 5, (sealL key nonce beside b).map U8 ++ x.2.2⟩] w' ∧ ((sealL key nonce beside b).map U8 ++ x.2.2).length = x.2.1 := by
  have hl2 := hy2.length
  have hsl : (streamL key 1#32 nonce b).length = m2 := by rw [streamL_len, hl2]
  refine Tr.enter Tryd.func22 rfl Tryd.ntmps22 rfl (Hp.refl w) ?_
  refine Tr.seq ?_
  refine Tr.region ?_
  refine Tr.val (V.assign rfl) rfl ?_
  refine Tr.lNil ?_
  refine Tr.thenN ?_
  refine Tr.seq ?_
  refine Tr.region ?_
  refine Tr.val (V.move rfl) rfl ?_
  refine Tr.val (V.move rfl) rfl ?_
  refine Tr.val (V.move rfl) rfl ?_
  refine Tr.op (W.call (val := fun r0 : Nat × Nat × List Value => .slice (some ⟨r0.1, 0, none⟩) m2 r0.2.1) (N := fun r0 => [⟨r0.1, 5, (streamL key 1#32 nonce b).map U8 ++ r0.2.2⟩]) (Px := fun r0 => ((streamL key 1#32 nonce b).map U8 ++ r0.2.2).length = r0.2.1) (vs := [_, U32 1#32, _, _]) (args4 rfl rfl rfl rfl) Tryd.call18 rfl (fun w1 hw => stream2_any p p2 p4 c c2 m2 c4 key 1#32 nonce b w1 (hk.now hw) (hn.now hw) (hy2.now hw) (by omega)) fun y hy => ?_)
  refine Tr.val (V.assign rfl) rfl ?_
  refine Tr.lNil ?_
  refine Tr.thenN ?_
  refine Tr.seq ?_
  refine Tr.region ?_
  refine Tr.val (V.move rfl) rfl ?_
  refine Tr.val (V.move rfl) rfl ?_
  refine Tr.val (V.move rfl) rfl ?_
  refine Tr.val (V.move rfl) rfl ?_
  refine Tr.val (V.move rfl) rfl ?_
  refine Tr.op (W.call (val := fun g : Nat => .slice (some ⟨g, 0, none⟩) 16 16) (N := fun g => [⟨g, 5, (tagL key nonce beside (streamL key 1#32 nonce b)).map U8⟩]) (Px := fun _ => True)  (args4 rfl rfl rfl rfl) Tryd.call35 rfl (fun w1 hw => rtag_any p p2 p3 (some ⟨y.1, 0, none⟩) c c2 m1 c3 m2 y.2.1 key nonce beside (streamL key 1#32 nonce b) w1 (hk.now hw) (hn.now hw) (hx.now hw) (Bytes.own hw (by repeat (first | exact List.Mem.head _ | apply List.Mem.tail)) hsl hy (by omega)) (by omega) (by omega)) fun g19 _ => ?_)
  refine Tr.op (W.append (m := m2) (k := 16) (xs := (streamL key 1#32 nonce b).map U8) (vs := (tagL key nonce beside (streamL key 1#32 nonce b)).map U8) (junk := y.2.2) (L' := fun q => [⟨g19, 5, (tagL key nonce beside (streamL key 1#32 nonce b)).map U8⟩, q]) elem27 rfl rfl (RdP.all (by repeat (first | exact List.Mem.head _ | apply List.Mem.tail))) (by rw [List.length_map, tagL_len]) (one8 _) (fun q => .tail .head) (by rw [List.length_map, hsl]) hy (by omega) (by omega) rfl fun g20 c20 j20 hc20 => ?_)
  rw [← List.map_append] at hc20 ⊢
  refine Tr.val (V.assign rfl) rfl ?_
  refine Tr.lNil ?_
  refine Tr.thenN ?_
  refine Tr.ret ?_
  refine Tr.out1 rfl (Res.tmp rfl) fun w hw => ?_
  exact ⟨⟨g20, c20, j20⟩, rfl, hw.sub (List.sublist_cons_self _ _), hc20⟩

end Go.Proofs.YtnhfmmohdiccgaaDoor
