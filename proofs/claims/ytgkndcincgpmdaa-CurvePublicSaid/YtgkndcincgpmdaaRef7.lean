/-
  Contracts of hatchwayref07. (Printed by a program of this session over its walk printer.)
-/
import Derived.Test.YtgkndcincgpmdaaRef3C
import Derived.Test.YtgkndcincgpmdaaPlainRef7
import Derived.Test.YtgkndcincgpmdaaSymP
namespace Go.Proofs.Ytgkndcincgpmdaa
open Go.Sym Plain
set_option linter.unusedVariables false
set_option maxRecDepth 20000

theorem rmod_any (p : Option Addr) (m c v : Nat) (w : World) (hx : Nums w p m c (dig v)) (hm : m ≤ 200) :
    Calls Try.prog 43 [.slice p m c].toArray w fun r w' => NumOut 3 w (v % FP) r w' ∨ (r = .returned (.slice p (dig (v % FP)).length c) ∧ dig v = dig (v % FP) ∧ Hp w [] [] w') := by
  have hFP : 2 ^ 255 - 19 = FP := by decide +kernel
  refine Tr.enter Try.func43 rfl Try.ntmps43 rfl (Hp.refl w) ?_
  refine Tr.seq ?_
  refine Tr.region ?_
  refine Tr.val (V.assign rfl) rfl ?_
  refine Tr.lNil ?_
  refine Tr.thenN ?_
  refine Tr.seq ?_
  refine Tr.region ?_
  refine Tr.val (V.move rfl) rfl ?_
  refine Tr.op (W.call (val := fun o : Row => srcV p c o (dig (v % FP)).length) (N := fun o : Row => o.blk 3 ((dig (v % FP)).map NV)) (Px := fun o => (o = none → dig v = dig (v % FP)) ∧ ∀ g c' junk, o = some (g, c', junk) → ((dig (v % FP)).map NV ++ junk).length = c')  (args3 rfl rfl rfl) Try.call54 rfl (fun w1 hw => (mod3_any p m c 255 31 7 19 v w1 (hx.now hw) hm rfl (by omega) (by omega) (by omega) (by omega) (by decide +kernel)).mono fun r w2 h => by
        rw [hFP] at h
        rcases h with ⟨x, h1, h2, h3⟩ | ⟨h1, h2, h3⟩
        · exact ⟨some x, h1, h2, (fun h => by cases h), fun g c' junk h => by cases h; exact h3⟩
        · exact ⟨none, h1, h3, (fun _ => h2), fun _ _ _ h => by cases h⟩) fun o ho => ?_)
  refine Tr.val (V.assign rfl) rfl ?_
  refine Tr.lNil ?_
  refine Tr.thenN ?_
  refine Tr.ret ?_
  refine Tr.out1 rfl (Res.tmp rfl) fun w hw => ?_
  obtain ⟨ho1, ho2⟩ := ho
  rcases o with _ | ⟨g, c2, junk⟩
  · exact .inr ⟨rfl, ho1 rfl, hw.sub (List.nil_sublist _)⟩
  · exact .inl ⟨⟨g, c2, junk⟩, rfl, hw, ho2 _ _ _ rfl⟩

theorem radd_any (p q : Option Addr) (c c2 N M : Nat) (w : World) (hx : Nums w p (dig N).length c (dig N)) (hy : Nums w q (dig M).length c2 (dig M)) (hN : N < FP) (hM : M < FP) :
    Calls Try.prog 44 [.slice p (dig N).length c, .slice q (dig M).length c2].toArray w (NumOut 3 w (fadd N M)) := by
  have l1 := dig32 hN
  have l2 := dig32 hM
  have l3 := dig_sum hN hM
  refine Tr.enter Try.func44 rfl Try.ntmps44 rfl (Hp.refl w) ?_
  refine Tr.seq ?_
  refine Tr.region ?_
  refine Tr.val (V.assign rfl) rfl ?_
  refine Tr.lNil ?_
  refine Tr.thenN ?_
  refine Tr.seq ?_
  refine Tr.region ?_
  refine Tr.val (V.move rfl) rfl ?_
  refine Tr.val (V.move rfl) rfl ?_
  refine Tr.op (W.callNum (N := N + M)  (args2 rfl rfl) Try.call55 rfl (fun w1 hw => by have h := plus3_any p q _ c _ c2 (dig N) (dig M) w1 (hx.now hw) (hy.now hw) (by omega) (by omega) (dig_digs _) (dig_digs _); rw [num_dig, num_dig] at h; exact h) fun g7 c7 junk7 hc7 => ?_)
  refine Tr.op (W.callMod (N := fadd N M) (xs := dig (N + M)) (junk0 := junk7)  (args1 rfl) Try.call43 rfl (List.Perm.refl _) hc7 (fun w1 hw => rmod_any (some ⟨g7, 0, none⟩) _ c7 (N + M) w1 (Nums.own hw (by repeat (first | exact List.Mem.head _ | apply List.Mem.tail)) rfl hc7) (by omega)) fun g8 c8 junk8 hc8 => ?_)
  refine Tr.val (V.assign rfl) rfl ?_
  refine Tr.lNil ?_
  refine Tr.thenN ?_
  refine Tr.ret ?_
  refine Tr.out1 rfl (Res.tmp rfl) fun w hw => ?_
  exact ⟨⟨g8, c8, junk8⟩, rfl, hw.sub (.cons_cons _ (List.nil_sublist _)), hc8⟩

theorem rmul_any (p q : Option Addr) (c c2 N M : Nat) (w : World) (hx : Nums w p (dig N).length c (dig N)) (hy : Nums w q (dig M).length c2 (dig M)) (hN : N < FP) (hM : M < FP) :
    Calls Try.prog 28 [.slice p (dig N).length c, .slice q (dig M).length c2].toArray w (NumOut 3 w (fmul N M)) := by
  have l1 := dig32 hN
  have l2 := dig32 hM
  have l3 := dig_prod hN hM
  refine Tr.enter Try.func28 rfl Try.ntmps28 rfl (Hp.refl w) ?_
  refine Tr.seq ?_
  refine Tr.region ?_
  refine Tr.val (V.assign rfl) rfl ?_
  refine Tr.lNil ?_
  refine Tr.thenN ?_
  refine Tr.seq ?_
  refine Tr.region ?_
  refine Tr.val (V.move rfl) rfl ?_
  refine Tr.val (V.move rfl) rfl ?_
  refine Tr.op (W.callNum (N := N * M)  (args2 rfl rfl) Try.call47 rfl (fun w1 hw => by have h := times3_any p q _ c _ c2 (dig N) (dig M) w1 (hx.now hw) (hy.now hw) (by omega) (by omega) (dig_digs _) (dig_digs _); rw [num_dig, num_dig] at h; exact h) fun g7 c7 junk7 hc7 => ?_)
  refine Tr.op (W.callMod (N := fmul N M) (xs := dig (N * M)) (junk0 := junk7)  (args1 rfl) Try.call43 rfl (List.Perm.refl _) hc7 (fun w1 hw => rmod_any (some ⟨g7, 0, none⟩) _ c7 (N * M) w1 (Nums.own hw (by repeat (first | exact List.Mem.head _ | apply List.Mem.tail)) rfl hc7) (by omega)) fun g8 c8 junk8 hc8 => ?_)
  refine Tr.val (V.assign rfl) rfl ?_
  refine Tr.lNil ?_
  refine Tr.thenN ?_
  refine Tr.ret ?_
  refine Tr.out1 rfl (Res.tmp rfl) fun w hw => ?_
  exact ⟨⟨g8, c8, junk8⟩, rfl, hw.sub (.cons_cons _ (List.nil_sublist _)), hc8⟩

theorem rfrom_any (p : Option Addr) (c : Nat) (b : List (BitVec 8)) (w : World) (hx : Bytes w p 32 c b) :
    Calls Try.prog 25 [.slice p 32 c].toArray w (NumOut 3 w (uN b)) := by
  have hbl := hx.length
  have l1 : (dig (leN b)).length ≤ 32 := dig_len (by rw [← hbl]; exact leN_lt b)
  have l2 : (dig (leN b % 2 ^ 255)).length ≤ 32 := Nat.le_trans (dig_mono (Nat.mod_le _ _)) l1
  have hU : leN b % 2 ^ 255 % FP = uN b := by
    unfold uN
    rw [show (2 : Nat) ^ 255 = 57896044618658097711785492504343953926634992332820282019728792003956564819968 from by decide +kernel]
  refine Tr.enter Try.func25 rfl Try.ntmps25 rfl (Hp.refl w) ?_
  refine Tr.seq ?_
  refine Tr.region ?_
  refine Tr.val (V.assign rfl) rfl ?_
  refine Tr.lNil ?_
  refine Tr.thenN ?_
  refine Tr.seq ?_
  refine Tr.region ?_
  refine Tr.val (V.move rfl) rfl ?_
  refine Tr.op (W.callNum (N := leN b)  (args1 rfl) Try.call42 rfl (fun w1 hw => by have h := number3_any p 32 c b w1 (hx.now hw) (by omega); exact h) fun g7 c7 junk7 hc7 => ?_)
  refine Tr.op (W.callNum2 (N := leN b % 2 ^ 255) (M := leN b / 2 ^ 255)  (args2 rfl rfl) Try.call41 rfl (fun w1 hw => by have h := parts3_any (some ⟨g7, 0, none⟩) _ c7 255 31 7 (dig (leN b)) w1 (Nums.own hw (by repeat (first | exact List.Mem.head _ | apply List.Mem.tail)) rfl hc7) (by omega) (dig_digs _) (by omega) (by omega) (by omega); rw [num_dig] at h; exact h) fun g8 c8 junk8 g88 c88 junk88 hc8 hc88 => ?_)
  refine Tr.val (V.move rfl) rfl ?_
  refine Tr.val (V.extract rfl rfl) rfl ?_
  refine Tr.val (V.extract rfl rfl) rfl ?_
  refine Tr.val (V.assign rfl) rfl ?_
  refine Tr.val (V.assign rfl) rfl ?_
  refine Tr.lNil ?_
  refine Tr.thenN ?_
  refine Tr.seq ?_
  refine Tr.region ?_
  refine Tr.val (V.move rfl) rfl ?_
  refine Tr.op (W.callMod (N := uN b) (xs := dig (leN b % 2 ^ 255)) (junk0 := junk8)  (args1 rfl) Try.call43 rfl (List.Perm.swap _ _ _) hc8 (fun w1 hw => by have h := rmod_any (some ⟨g8, 0, none⟩) _ c8 (leN b % 2 ^ 255) w1 (Nums.own hw (by repeat (first | exact List.Mem.head _ | apply List.Mem.tail)) rfl hc8) (by omega); rw [hU] at h; exact h) fun g12 c12 junk12 hc12 => ?_)
  refine Tr.val (V.assign rfl) rfl ?_
  refine Tr.lNil ?_
  refine Tr.thenN ?_
  refine Tr.ret ?_
  refine Tr.out1 rfl (Res.tmp rfl) fun w hw => ?_
  exact ⟨⟨g12, c12, junk12⟩, rfl, hw.sub (.cons_cons _ (List.nil_sublist _)), hc12⟩

theorem rbytes_any (p : Option Addr) (c N : Nat) (w : World) (hx : Nums w p (dig N).length c (dig N)) (hN : N < FP) :
    Calls Try.prog 27 [.slice p (dig N).length c].toArray w fun r w' => ∃ g : Nat, r = .returned (.slice (some ⟨g, 0, none⟩) 32 32) ∧ Hp w [] [⟨g, 5, (leB N 32).map U8⟩] w' ∧ True := by
  have l1 := dig32 hN
  refine Tr.enter Try.func27 rfl Try.ntmps27 rfl (Hp.refl w) ?_
  refine Tr.seq ?_
  refine Tr.region ?_
  refine Tr.val (V.assign rfl) rfl ?_
  refine Tr.lNil ?_
  refine Tr.thenN ?_
  refine Tr.seq ?_
  refine Tr.region ?_
  refine Tr.val (V.move rfl) rfl ?_
  refine Tr.op (W.call (val := fun g : Nat => .slice (some ⟨g, 0, none⟩) 32 32) (N := fun g => [⟨g, 5, (leB N 32).map U8⟩]) (Px := fun _ => True)  (args2 rfl rfl) Try.call46 rfl (fun w1 hw => by have h := bytes3_any p _ c 32 (dig N) w1 (hx.now hw) (by omega) (by omega); rw [toB_leB hN] at h; exact h) fun g _ => ?_)
  refine Tr.val (V.assign rfl) rfl ?_
  refine Tr.lNil ?_
  refine Tr.thenN ?_
  refine Tr.ret ?_
  refine Tr.out1 rfl (Res.tmp rfl) fun w hw => ?_
  exact ⟨g, rfl, hw, trivial⟩

theorem rp_any (w : World) : Calls Try.prog 48 #[] w fun r w' => ∃ x : Nat × Nat × List Value, r = .returned (.slice (some ⟨x.1, 0, none⟩) 32 x.2.1) ∧ Hp w [] [⟨x.1, 3, pD.map NV ++ x.2.2⟩] w' ∧ (pD.map NV ++ x.2.2).length = x.2.1 := by
  refine Tr.enter Try.func48 rfl Try.ntmps48 rfl (Hp.refl w) ?_
  refine Tr.seq ?_
  refine Tr.region ?_
  refine Tr.val (V.assign rfl) rfl ?_
  refine Tr.lNil ?_
  refine Tr.thenN ?_
  refine Tr.seq ?_
  refine Tr.region ?_
  refine Tr.op (W.build (vs := [NV 237]) elem53 (fun a _ => by simp [Act.eval, List.range'_succ]) rfl (by simp [Value.cells]) (by omega) rfl fun g3 => ?_)
  refine Tr.val (V.assign rfl) rfl ?_
  refine Tr.lNil ?_
  refine Tr.thenN ?_
  refine Tr.seq ?_
  refine Tr.seq ?_
  refine Tr.region ?_
  refine Tr.val (V.assign rfl) rfl ?_
  refine Tr.lNil ?_
  refine Tr.thenN ?_
  refine Tr.block ?_
  refine Tr.loop (ι := Nat × Nat × Nat × List Value) (fun x => 1 ≤ x.1 ∧ x.1 ≤ 31 ∧ ((pTo x.1).map NV ++ x.2.2.2).length = x.2.2.1) (fun x => [(1, .slice (some ⟨x.2.1, 0, none⟩) x.1 x.2.2.1), (2, NV x.1)]) (fun x => [⟨x.2.1, 3, (pTo x.1).map NV ++ x.2.2.2⟩]) (fun x => 31 - x.1) (1, g3, 1, []) ⟨Nat.le_refl _, by simp only; omega, rfl⟩ (lk_cons rfl (lk_cons rfl (lk_nil _))) (List.Sublist.refl _) fun x hI => ?_
  obtain ⟨i, g, c, junk⟩ := x
  obtain ⟨hi1, hi2, hok⟩ := hI
  simp only at hi1 hi2 hok ⊢
  refine Tr.seq ?_
  refine Tr.seq ?_
  refine Tr.region ?_
  refine Tr.val (V.move rfl) rfl ?_
  refine Tr.val (V.lss rfl rfl rfl) rfl ?_
  refine Tr.lNil ?_
  refine Tr.thenN ?_
  refine Tr.cond rfl (fun hT0 => ?_) (fun hF0 => ?_)
  · simp only [decide_eq_true_eq] at hT0
    have hlt : i < 31 := by omega
    refine Tr.skip ?_
    refine Tr.thenN ?_
    refine Tr.seq ?_
    refine Tr.block ?_
    refine Tr.region ?_
    refine Tr.val (V.move rfl) rfl ?_
    refine Tr.op (W.build (vs := [NV 255]) elem53 (fun a _ => by simp [Act.eval, List.range'_succ]) rfl (by simp [Value.cells]) (by omega) rfl fun g9 => ?_)
    refine Tr.op (W.append (m := i) (k := 1) (xs := (pTo i).map NV) (vs := [NV 255]) (junk := junk) (L' := fun y => [⟨g9, 3, [NV 255]⟩, y]) elem53 rfl rfl (RdP.blk (cs := [NV 255]) (List.Mem.head _) 0 1) rfl (by simp [Value.oneCell']) (fun y => .tail .head) (by rw [List.length_map, pTo_len i hi1]) hok (by omega) (by omega) rfl fun g' c' junk' hc' => ?_)
    rw [show (pTo i).map NV ++ [NV 255] = (pTo (i + 1)).map NV by rw [← pTo_snoc i hi1, List.map_append]; rfl] at hc' ⊢
    refine Tr.val (V.assign rfl) rfl ?_
    refine Tr.lNil ?_
    refine Tr.inN ?_
    refine Tr.thenN ?_
    refine Tr.region ?_
    refine Tr.val (V.move rfl) rfl ?_
    refine Tr.val (V.addN (b := 1) rfl rfl (by omega)) rfl ?_
    refine Tr.val (V.assign rfl) rfl ?_
    refine Tr.lNil ?_
    exact Tr.again (i + 1, g', c', junk') ⟨by simp only; omega, by simp only; omega, hc'⟩ (by simp only; omega) (lk_cons rfl (lk_cons rfl (lk_nil _))) (List.sublist_cons_self _ _)
  · simp only [decide_eq_false_iff_not] at hF0
    obtain rfl : i = 31 := by omega
    refine Tr.exit ?_
    refine Tr.thenX ?_
    refine Tr.thenX ?_
    refine Tr.inHit ?_
    refine Tr.thenN ?_
    refine Tr.seq ?_
    refine Tr.region ?_
    refine Tr.val (V.move rfl) rfl ?_
    refine Tr.op (W.build (vs := [NV 127]) elem53 (fun a _ => by simp [Act.eval, List.range'_succ]) rfl (by simp [Value.cells]) (by omega) rfl fun g12 => ?_)
    refine Tr.op (W.append (m := 31) (k := 1) (xs := (pTo 31).map NV) (vs := [NV 127]) (junk := junk) (L' := fun y => [⟨g12, 3, [NV 127]⟩, y]) elem53 rfl rfl (RdP.blk (cs := [NV 127]) (List.Mem.head _) 0 1) rfl (by simp [Value.oneCell']) (fun y => .tail .head) rfl hok (by omega) (by omega) rfl fun g13 c13 junk13 hc13 => ?_)
    rw [show (pTo 31).map NV ++ [NV 127] = pD.map NV by rw [pD, List.map_append]; rfl] at hc13 ⊢
    refine Tr.val (V.assign rfl) rfl ?_
    refine Tr.lNil ?_
    refine Tr.thenN ?_
    refine Tr.ret ?_
    refine Tr.out1 rfl (Res.tmp rfl) fun w hw => ?_
    exact ⟨⟨g13, c13, junk13⟩, rfl, hw.sub (List.sublist_cons_self _ _), hc13⟩

end Go.Proofs.Ytgkndcincgpmdaa
