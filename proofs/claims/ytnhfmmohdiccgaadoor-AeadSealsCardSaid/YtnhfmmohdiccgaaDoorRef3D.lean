/-
  The contract of hatchwayref03.Sum. (Printed by a program of this session over its walk printer.)
-/
import Derived.Test.YtnhfmmohdiccgaaDoorRef3C
import Derived.Test.YtnhfmmohdiccgaaDoorPlainRef3c
namespace Go.Proofs.YtnhfmmohdiccgaaDoor
open Go.Sym Plain
set_option linter.unusedVariables false
set_option maxRecDepth 20000

set_option maxRecDepth 20000 in
theorem rsum_any (p p2 : Option Addr) (c m2 c2 : Nat) (key b : List (BitVec 8)) (w : World) (hk : Bytes w p 32 c key) (hb : Bytes w p2 m2 c2 b) (hm2 : m2 ≤ 100000) :
    Calls Tryd.prog 45 [.slice p 32 c, .slice p2 m2 c2].toArray w fun r w' => ∃ g : Nat, r = .returned (.slice (some ⟨g, 0, none⟩) 16 16) ∧ Hp w [] [⟨g, 5, (polyTag key b).map U8⟩] w' ∧ True := by
  have hkl := hk.length
  have hkc := hk.le
  have hbl := hb.length
  obtain ⟨K, hK⟩ : ∃ K, K = key.take 16 := ⟨_, rfl⟩
  have hKl : K.length = 16 := by rw [hK, List.length_take]; omega
  have hk16 : Bytes w p 16 c K := by rw [hK]; exact hk.part (by omega)
  have hAl : ∀ i, (stepA K i).length = 16 := fun i => by rw [stepA_len, hKl]
  have hBl : ∀ i, (stepB (stepA K 19) i).length = 16 := fun i => by rw [stepB_len, hAl]
  have hRlt := polyR_lt key hkl
  have hSlt := polyS_lt key hkl
  have hR0 : andL K maskB = stepB (stepA K 19) 16 := (steps_all K hKl).symm
  have hRn : leN (stepB (stepA K 19) 16) = polyR key := by rw [← hR0, hK]; rfl
  have hp16 : Bytes w (if c = 16 then p else p.map (·.add 16)) 16 (c - 16) (cutB key 16 16) := (hk.drop 16 (by omega)).part (by omega)
  rw [if_neg (show ¬ c = 16 by omega)] at hp16
  refine Tr.enter Tryd.func45 rfl Tryd.ntmps45 rfl (Hp.refl w) ?_
  refine Tr.seq ?_
  refine Tr.region ?_
  refine Tr.val (V.assign rfl) rfl ?_
  refine Tr.lNil ?_
  refine Tr.thenN ?_
  refine Tr.seq ?_
  refine Tr.region ?_
  refine Tr.op (W.build elem27 W.parts0 rfl (by simp) (by omega) rfl fun g11 => ?_)
  refine Tr.val (V.move rfl) rfl ?_
  refine Tr.val (V.cut (h := 16) Tryd.runUnderlying27 Tryd.sizeOf5 rfl rfl (by omega)) rfl ?_
  refine Tr.op (W.append (m := 0) (xs := []) (vs := K.map U8) (junk := []) (L' := fun y => [y]) elem27 rfl rfl hk16.old (by rw [List.length_map]; exact hKl) (one8 _) (fun y => .head) rfl rfl (by omega) (by omega) rfl fun g14 c14 junk14 hc14 => ?_)
  rw [List.nil_append] at hc14 ⊢
  refine Tr.val (V.assign rfl) rfl ?_
  refine Tr.lNil ?_
  refine Tr.thenN ?_
  refine Tr.seq ?_
  refine Tr.seq ?_
  refine Tr.region ?_
  refine Tr.val (V.assign rfl) rfl ?_
  refine Tr.lNil ?_
  refine Tr.thenN ?_
  refine Tr.block ?_
  refine Tr.loop (ι := Nat) (fun i => i % 4 = 3 ∧ i ≤ 19) (fun i => [(0, .slice p 32 c), (1, .slice p2 m2 c2), (5, .slice (some ⟨g14, 0, none⟩) 16 c14), (6, NV i)]) (fun i => [⟨g14, 5, (stepA K i).map U8 ++ junk14⟩]) (fun i => 20 - i) 3 ⟨by decide, by decide⟩ (lk_cons rfl (lk_cons rfl (lk_cons rfl (lk_cons rfl (lk_nil _))))) (by rw [stepA_zero]; exact List.Sublist.refl _) fun i hI => ?_
  obtain ⟨hi4, hi19⟩ := hI
  have hAli := hAl i
  refine Tr.seq ?_
  refine Tr.seq ?_
  refine Tr.region ?_
  refine Tr.val (V.move rfl) rfl ?_
  refine Tr.val (V.lss rfl rfl rfl) rfl ?_
  refine Tr.lNil ?_
  refine Tr.thenN ?_
  refine Tr.cond rfl (fun hT0 => ?_) (fun hF0 => ?_)
  · simp only [decide_eq_true_eq] at hT0
    have hlt : i < 16 := by omega
    obtain ⟨a, ha0⟩ : ∃ a, K[i]? = some a := ⟨_, List.getElem?_eq_getElem (by omega)⟩
    have ha : (stepA K i)[i]? = some a := by rw [stepA_get, ha0]
    have hset := stepA_set K i a (by omega) ha0
    refine Tr.skip ?_
    refine Tr.thenN ?_
    refine Tr.seq ?_
    refine Tr.block ?_
    refine Tr.region ?_
    refine Tr.val (V.move rfl) rfl ?_
    refine Tr.val (V.move rfl) rfl ?_
    refine Tr.val (V.move rfl) rfl ?_
    refine Tr.val (V.move rfl) rfl ?_
    refine Tr.val (V.idxO (j := i) (o' := i) Tryd.runUnderlying27 Tryd.sizeOf5 rfl rfl (by omega) (by omega) (by omega)) rfl ?_
    refine Tr.val (V.load1 Tryd.isAgg5 rfl (V.cellB (by repeat (first | exact List.Mem.head _ | apply List.Mem.tail)) (by rw [List.getElem?_append_left (by rw [List.length_map]; omega), List.getElem?_map, ha]; rfl))) rfl ?_
    refine Tr.val (V.rem8 (Y := 16#8) rfl rfl (by decide)) rfl ?_
    refine Tr.val (V.idxO (j := i) (o' := i) Tryd.runUnderlying27 Tryd.sizeOf5 rfl rfl (by omega) (by omega) (by omega)) rfl ?_
    refine Tr.op (W.store1E (cs := (stepA K i).map U8 ++ junk14) (v := U8 (a % 16#8)) (cs' := (stepA K (i + 4)).map U8 ++ junk14) Tryd.sizeOf5 rfl rfl rfl rfl (by rw [List.set_append_left _ _ (by rw [List.length_map]; omega), ← List.map_set, hset]) (by repeat (first | exact Upd.head | apply Upd.tail)) (by rw [List.length_append, List.length_map]; omega) ?_)
    refine Tr.lNil ?_
    refine Tr.inN ?_
    refine Tr.thenN ?_
    refine Tr.region ?_
    refine Tr.val (V.move rfl) rfl ?_
    refine Tr.val (V.addN (b := 4) rfl rfl (by omega)) rfl ?_
    refine Tr.val (V.assign rfl) rfl ?_
    refine Tr.lNil ?_
    exact Tr.again (i + 4) ⟨by omega, by omega⟩ (by omega) (lk_cons rfl (lk_cons rfl (lk_cons rfl (lk_cons rfl (lk_nil _))))) (List.Sublist.refl _)
  · simp only [decide_eq_false_iff_not] at hF0
    obtain rfl : i = 19 := by omega
    refine Tr.exit ?_
    refine Tr.thenX ?_
    refine Tr.thenX ?_
    refine Tr.inHit ?_
    refine Tr.thenN ?_
    refine Tr.seq ?_
    refine Tr.seq ?_
    refine Tr.region ?_
    refine Tr.val (V.assign rfl) rfl ?_
    refine Tr.lNil ?_
    refine Tr.thenN ?_
    refine Tr.block ?_
    refine Tr.loop (ι := Nat) (fun i => i % 4 = 0 ∧ i ≤ 16 ∧ 4 ≤ i) (fun i => [(0, .slice p 32 c), (1, .slice p2 m2 c2), (5, .slice (some ⟨g14, 0, none⟩) 16 c14), (7, NV i)]) (fun i => [⟨g14, 5, (stepB (stepA K 19) i).map U8 ++ junk14⟩]) (fun i => 20 - i) 4 ⟨by decide, by decide, by decide⟩ (lk_cons rfl (lk_cons rfl (lk_cons rfl (lk_cons rfl (lk_nil _))))) (by rw [stepB_zero]; exact List.Sublist.refl _) fun i hI => ?_
    clear hi4 hi19 hAli
    obtain ⟨hi4, hi16, hi40⟩ := hI
    have hBli := hBl i
    refine Tr.seq ?_
    refine Tr.seq ?_
    refine Tr.region ?_
    refine Tr.val (V.move rfl) rfl ?_
    refine Tr.val (V.lss rfl rfl rfl) rfl ?_
    refine Tr.lNil ?_
    refine Tr.thenN ?_
    refine Tr.cond rfl (fun hT1 => ?_) (fun hF1 => ?_)
    · simp only [decide_eq_true_eq] at hT1
      have hlt : i < 16 := by omega
      obtain ⟨a, ha0⟩ : ∃ a, (stepA K 19)[i]? = some a := ⟨_, List.getElem?_eq_getElem (by rw [hAl]; omega)⟩
      have ha : (stepB (stepA K 19) i)[i]? = some a := by rw [stepB_get, ha0]
      have hset := stepB_set (stepA K 19) i a (by omega) (by omega) ha0
      refine Tr.skip ?_
      refine Tr.thenN ?_
      refine Tr.seq ?_
      refine Tr.block ?_
      refine Tr.region ?_
      refine Tr.val (V.move rfl) rfl ?_
      refine Tr.val (V.move rfl) rfl ?_
      refine Tr.val (V.move rfl) rfl ?_
      refine Tr.val (V.move rfl) rfl ?_
      refine Tr.val (V.idxO (j := i) (o' := i) Tryd.runUnderlying27 Tryd.sizeOf5 rfl rfl (by omega) (by omega) (by omega)) rfl ?_
      refine Tr.val (V.load1 Tryd.isAgg5 rfl (V.cellB (by repeat (first | exact List.Mem.head _ | apply List.Mem.tail)) (by rw [List.getElem?_append_left (by rw [List.length_map]; omega), List.getElem?_map, ha]; rfl))) rfl ?_
      refine Tr.val (V.quo8 (Y := 4#8) rfl rfl (by decide)) rfl ?_
      refine Tr.val (V.mul8 (Y := 4#8) rfl rfl) rfl ?_
      refine Tr.val (V.idxO (j := i) (o' := i) Tryd.runUnderlying27 Tryd.sizeOf5 rfl rfl (by omega) (by omega) (by omega)) rfl ?_
      refine Tr.op (W.store1E (cs := (stepB (stepA K 19) i).map U8 ++ junk14) (v := U8 (a / 4#8 * 4#8)) (cs' := (stepB (stepA K 19) (i + 4)).map U8 ++ junk14) Tryd.sizeOf5 rfl rfl rfl rfl (by rw [List.set_append_left _ _ (by rw [List.length_map]; omega), ← List.map_set, hset]) (by repeat (first | exact Upd.head | apply Upd.tail)) (by rw [List.length_append, List.length_map]; omega) ?_)
      refine Tr.lNil ?_
      refine Tr.inN ?_
      refine Tr.thenN ?_
      refine Tr.region ?_
      refine Tr.val (V.move rfl) rfl ?_
      refine Tr.val (V.addN (b := 4) rfl rfl (by omega)) rfl ?_
      refine Tr.val (V.assign rfl) rfl ?_
      refine Tr.lNil ?_
      exact Tr.again (i + 4) ⟨by omega, by omega, by omega⟩ (by omega) (lk_cons rfl (lk_cons rfl (lk_cons rfl (lk_cons rfl (lk_nil _))))) (List.Sublist.refl _)
    · simp only [decide_eq_false_iff_not] at hF1
      obtain rfl : i = 16 := by omega
      have hc14b := hc14
      rw [List.length_append, List.length_map, hKl] at hc14b
      refine Tr.exit ?_
      refine Tr.thenX ?_
      refine Tr.thenX ?_
      refine Tr.inHit ?_
      refine Tr.thenN ?_
      refine Tr.seq ?_
      refine Tr.region ?_
      refine Tr.op (W.build elem88 W.parts0 rfl (by simp) (by omega) rfl fun g40 => ?_)
      refine Tr.val (V.assign rfl) rfl ?_
      refine Tr.lNil ?_
      refine Tr.thenN ?_
      refine Tr.seq ?_
      refine Tr.seq ?_
      refine Tr.region ?_
      refine Tr.val (V.assign rfl) rfl ?_
      refine Tr.lNil ?_
      refine Tr.thenN ?_
      refine Tr.block ?_
      refine Tr.loop (ι := Nat × Nat × Nat × List Value) (fun x => 16 * x.1 ≤ m2 + 15 ∧ ((dig (polyAcc (polyR key) b x.1)).map NV ++ x.2.2.2).length = x.2.2.1) (fun x => [(0, .slice p 32 c), (1, .slice p2 m2 c2), (5, .slice (some ⟨g14, 0, none⟩) 16 c14), (8, .slice (some ⟨x.2.1, 0, none⟩) (dig (polyAcc (polyR key) b x.1)).length x.2.2.1), (9, NV (16 * x.1))]) (fun x => [⟨x.2.1, 3, (dig (polyAcc (polyR key) b x.1)).map NV ++ x.2.2.2⟩, ⟨g14, 5, (stepB (stepA K 19) 16).map U8 ++ junk14⟩]) (fun x => m2 + 16 - 16 * x.1) (0, g40, 0, []) ⟨Nat.zero_le _, by simp [polyAcc, dig_zero]⟩ (lk_cons rfl (lk_cons rfl (lk_cons rfl (lk_cons (by simp [polyAcc, dig_zero]; rfl) (lk_cons rfl (lk_nil _)))))) (by simp [polyAcc, dig_zero]) fun x hI => ?_
      clear hi4 hi16 hi40 hBli
      obtain ⟨k, g, cq, junk⟩ := x
      obtain ⟨hk15, hc⟩ := hI
      simp only at hk15 hc ⊢
      have hvlt := polyAcc_lt (polyR key) b k
      obtain ⟨v, hv⟩ : ∃ v, v = polyAcc (polyR key) b k := ⟨_, rfl⟩
      rw [← hv] at hc hvlt ⊢
      have hvl : (dig v).length ≤ 17 := dig_len (by omega)
      have hrl : (dig (polyR key)).length ≤ 16 := dig_len (by omega)
      refine Tr.seq ?_
      refine Tr.seq ?_
      refine Tr.region ?_
      refine Tr.val (V.move rfl) rfl ?_
      refine Tr.val (V.move rfl) rfl ?_
      refine Tr.val (V.len Tryd.runUnderlying27 rfl) rfl ?_
      refine Tr.val (V.lss rfl rfl rfl) rfl ?_
      refine Tr.lNil ?_
      refine Tr.thenN ?_
      refine Tr.cond rfl (fun hT2 => ?_) (fun hF2 => ?_)
      · simp only [decide_eq_true_eq] at hT2
        have hlt : 16 * k < m2 := by omega
        obtain ⟨e, he⟩ : ∃ e, e = Nat.min (16 * k + 16) m2 := ⟨_, rfl⟩
        have he1 : e ≤ m2 := by rw [he]; exact Nat.min_le_right _ _
        have he2 : e ≤ 16 * k + 16 := by rw [he]; exact Nat.min_le_left _ _
        have he3 : 16 * k ≤ e := by rw [he]; exact Nat.le_min.2 ⟨by omega, by omega⟩
        have hpart : Bytes w (if c2 = 16 * k then p2 else p2.map (·.add (16 * k))) (e - 16 * k) (c2 - 16 * k) (partB b k) := by
          have h := (hb.drop (16 * k) (by omega)).part (k := e - 16 * k) (by omega)
          rwa [part_eq b k e (by rw [hbl]; exact he) (by omega)] at h
        obtain ⟨n, hn⟩ : ∃ n, n = partN (partB b k) := ⟨_, rfl⟩
        have hnlt : n < 680564733841876926926749214863536422912 := by rw [hn]; exact partN_le _ (by rw [hpart.length]; omega)
        have hnl : (dig n).length ≤ 17 := dig_len (by omega)
        have hvnl : (dig (v + n)).length ≤ 18 := dig_len (by omega)
        have hprod : (v + n) * polyR key ≤ 2722258935367507707706996859454145691648 * 21267647932558653966460912964485513216 := Nat.mul_le_mul (by omega) (by omega)
        have hpl : (dig ((v + n) * polyR key)).length ≤ 40 := dig_len (by omega)
        have hacc : polyAcc (polyR key) b (k + 1) = (v + n) * polyR key % 1361129467683753853853498429727072845819 := by rw [hv, hn]; rfl
        refine Tr.skip ?_
        refine Tr.thenN ?_
        refine Tr.seq ?_
        refine Tr.block ?_
        refine Tr.seq ?_
        refine Tr.region ?_
        refine Tr.op (W.build elem27 W.parts0 rfl (by simp) (by omega) rfl fun g47 => ?_)
        refine Tr.val (V.move rfl) rfl ?_
        refine Tr.val (V.move rfl) rfl ?_
        refine Tr.val (V.move rfl) rfl ?_
        refine Tr.val (V.addN (b := 16) rfl rfl (by omega)) rfl ?_
        refine Tr.val (V.move rfl) rfl ?_
        refine Tr.val (V.len Tryd.runUnderlying27 rfl) rfl ?_
        refine Tr.val ((by rw [he]; exact V.minN rfl rfl : VOp Tryd.prog _ _ _ _ _ _ _ (NV e))) rfl ?_
        refine Tr.val (V.sliceS (l := 16 * k) (h := e) Tryd.runUnderlying27 Tryd.sizeOf5 rfl rfl rfl rfl rfl (by omega) (by have := hb.le; omega)) rfl ?_
        refine Tr.op (W.append (m := 0) (xs := []) (vs := (partB b k).map U8) (junk := []) (L' := fun y => [y, ⟨g, 3, (dig v).map NV ++ junk⟩, ⟨g14, 5, (stepB (stepA K 19) 16).map U8 ++ junk14⟩]) elem27 rfl rfl (hpart.old) (by rw [List.length_map]; exact hpart.length) (one8 _) (fun y => .head) rfl rfl (by omega) (by omega) rfl fun g56 c56 junk56 hc56 => ?_)
        rw [List.nil_append] at hc56 ⊢
        refine Tr.op (W.build (vs := [U8 1#8]) elem27 (fun a _ => by simp [Act.eval, List.range'_succ]) rfl (by simp [Value.cells]) (by omega) rfl fun g57 => ?_)
        refine Tr.op (W.append (m := 0 + (e - 16 * k)) (xs := (partB b k).map U8) (vs := [U8 1#8]) (junk := junk56) (L' := fun y => [⟨g57, 5, [U8 1#8]⟩, y, ⟨g, 3, (dig v).map NV ++ junk⟩, ⟨g14, 5, (stepB (stepA K 19) 16).map U8 ++ junk14⟩]) elem27 rfl rfl (RdP.blk (cs := [U8 1#8]) (List.Mem.head _) 0 1) rfl (by simp [Value.oneCell']) (fun y => .tail .head) (by rw [List.length_map, hpart.length]; omega) hc56 (by omega) (by omega) rfl fun g58 c58 junk58 hc58 => ?_)
        rw [show (partB b k).map U8 ++ [U8 1#8] = (partB b k ++ [1#8]).map U8 by rw [List.map_append]; rfl] at hc58 ⊢
        refine Tr.val (V.assign rfl) rfl ?_
        refine Tr.lNil ?_
        refine Tr.thenN ?_
        refine Tr.region ?_
        refine Tr.val (V.move rfl) rfl ?_
        refine Tr.val (V.move rfl) rfl ?_
        refine Tr.op (W.callNum (N := n)  (args1 rfl) Tryd.call57 rfl (fun w1 hw => by have h := number3_any (some ⟨g58, 0, none⟩) (0 + (e - 16 * k) + 1) c58 (partB b k ++ [1#8]) w1 ⟨(RdP.headL (xs := (partB b k ++ [1#8]).map U8) (junk := junk58) (by repeat (first | exact List.Mem.head _ | apply List.Mem.tail))).now hw, by rw [List.length_append, hpart.length]; simp, by rw [List.length_append, List.length_map, List.length_append, hpart.length] at hc58; simp at hc58; omega, by omega, fun h => by cases h⟩ (by omega); rw [leN_one, ← hn] at h; exact h) fun g61 c61 junk61 hc61 => ?_)
        refine Tr.op (W.callNum (N := v + n)  (args2 rfl rfl) Tryd.call56 rfl (fun w1 hw => by have h := plus3_any (some ⟨g, 0, none⟩) (some ⟨g61, 0, none⟩) _ cq _ c61 (dig v) (dig n) w1 (Nums.own hw (by repeat (first | exact List.Mem.head _ | apply List.Mem.tail)) rfl hc) (Nums.own hw (by repeat (first | exact List.Mem.head _ | apply List.Mem.tail)) rfl hc61) (by omega) (by omega) (dig_digs _) (dig_digs _); rw [num_dig, num_dig] at h; exact h) fun g62 c62 junk62 hc62 => ?_)
        refine Tr.val (V.move rfl) rfl ?_
        refine Tr.op (W.callNum (N := polyR key)  (args1 rfl) Tryd.call57 rfl (fun w1 hw => by have h := number3_any (some ⟨g14, 0, none⟩) 16 c14 (stepB (stepA K 19) 16) w1 ⟨(RdP.headL (xs := (stepB (stepA K 19) 16).map U8) (junk := junk14) (by repeat (first | exact List.Mem.head _ | apply List.Mem.tail))).now hw, hBl 16, by omega, by omega, fun h => by cases h⟩ (by omega); rw [hRn] at h; exact h) fun g64 c64 junk64 hc64 => ?_)
        refine Tr.op (W.callNum (N := (v + n) * polyR key)  (args2 rfl rfl) Tryd.call55 rfl (fun w1 hw => by have h := times3_any (some ⟨g62, 0, none⟩) (some ⟨g64, 0, none⟩) _ c62 _ c64 (dig (v + n)) (dig (polyR key)) w1 (Nums.own hw (by repeat (first | exact List.Mem.head _ | apply List.Mem.tail)) rfl hc62) (Nums.own hw (by repeat (first | exact List.Mem.head _ | apply List.Mem.tail)) rfl hc64) (by omega) (by omega) (dig_digs _) (dig_digs _); rw [num_dig, num_dig] at h; exact h) fun g65 c65 junk65 hc65 => ?_)
        refine Tr.op (W.callMod (N := (v + n) * polyR key % 1361129467683753853853498429727072845819) (xs := dig ((v + n) * polyR key)) (junk0 := junk65)  (args3 rfl rfl rfl) Tryd.call54 rfl (List.Perm.refl _) hc65 (fun w1 hw => by have h := mod3_any (some ⟨g65, 0, none⟩) _ c65 130 16 2 5 ((v + n) * polyR key) w1 (Nums.own hw (by repeat (first | exact List.Mem.head _ | apply List.Mem.tail)) rfl hc65) (by omega) rfl (by omega) (by omega) (by omega) (by omega) (by decide); rw [show 2 ^ 130 - 5 = 1361129467683753853853498429727072845819 from rfl] at h; exact h) fun g66 c66 junk66 hc66 => ?_)
        refine Tr.val (V.assign rfl) rfl ?_
        refine Tr.lNil ?_
        refine Tr.inN ?_
        refine Tr.thenN ?_
        refine Tr.region ?_
        refine Tr.val (V.move rfl) rfl ?_
        refine Tr.val (V.addN (b := 16) rfl rfl (by omega)) rfl ?_
        refine Tr.val (V.assign rfl) rfl ?_
        refine Tr.lNil ?_
        exact Tr.again (k + 1, g66, c66, junk66) ⟨by simp only; omega, by rw [hacc]; exact hc66⟩ (by simp only; omega) (lk_cons rfl (lk_cons rfl (lk_cons rfl (lk_cons (by rw [hacc]; rfl) (lk_cons rfl (lk_nil _)))))) (by rw [hacc]; exact .cons_cons _ (List.sublist_append_right [_, _, _, _, _, _] _))
      · simp only [decide_eq_false_iff_not] at hF2
        have hTT : polyTag key b = tagB (v + polyS key) := by
          have e : partsOf b = k := by unfold partsOf; omega
          rw [polyTag, e, hv]
        have hsl : (dig (polyS key)).length ≤ 16 := dig_len (by omega)
        have hvsl : (dig (v + polyS key)).length ≤ 18 := dig_len (by omega)
        refine Tr.exit ?_
        refine Tr.thenX ?_
        refine Tr.thenX ?_
        refine Tr.inHit ?_
        refine Tr.thenN ?_
        refine Tr.seq ?_
        refine Tr.region ?_
        refine Tr.val (V.move rfl) rfl ?_
        refine Tr.val (V.move rfl) rfl ?_
        refine Tr.val ((by rw [show (Value.slice (p.map (·.add 16)) 16 (c - 16)) = .slice (if c = 16 then p else p.map (·.add 16)) (32 - 16) (c - 16) by rw [if_neg (show ¬ c = 16 by omega)]]; exact V.sliceS (l := 16) (h := 32) Tryd.runUnderlying27 Tryd.sizeOf5 rfl rfl rfl rfl rfl (by omega) (by omega) : VOp Tryd.prog _ _ _ _ _ _ _ (.slice (p.map (·.add 16)) 16 (c - 16)))) rfl ?_
        refine Tr.op (W.callNum (N := polyS key)  (args1 rfl) Tryd.call57 rfl (fun w1 hw => number3_any (p.map (·.add 16)) 16 (c - 16) (cutB key 16 16) w1 (hp16.now hw) (by omega)) fun g70 c70 junk70 hc70 => ?_)
        refine Tr.op (W.callNum (N := v + polyS key)  (args2 rfl rfl) Tryd.call56 rfl (fun w1 hw => by have h := plus3_any (some ⟨g, 0, none⟩) (some ⟨g70, 0, none⟩) _ cq _ c70 (dig v) (dig (polyS key)) w1 (Nums.own hw (by repeat (first | exact List.Mem.head _ | apply List.Mem.tail)) rfl hc) (Nums.own hw (by repeat (first | exact List.Mem.head _ | apply List.Mem.tail)) rfl hc70) (by omega) (by omega) (dig_digs _) (dig_digs _); rw [num_dig, num_dig] at h; exact h) fun g71 c71 junk71 hc71 => ?_)
        refine Tr.op (W.call (val := fun g : Nat => .slice (some ⟨g, 0, none⟩) 16 16) (N := fun g => [⟨g, 5, (tagB (v + polyS key)).map U8⟩]) (Px := fun _ => True)  (args2 rfl rfl) Tryd.call58 rfl (fun w1 hw => by have h := bytes3_any (some ⟨g71, 0, none⟩) _ c71 16 (dig (v + polyS key)) w1 (Nums.own hw (by repeat (first | exact List.Mem.head _ | apply List.Mem.tail)) rfl hc71) (by omega) (by omega); rw [tag_toB] at h; exact h) fun g72 _ => ?_)
        refine Tr.val (V.assign rfl) rfl ?_
        refine Tr.lNil ?_
        refine Tr.thenN ?_
        refine Tr.ret ?_
        refine Tr.out1 rfl (Res.tmp rfl) fun w hw => ?_
        exact ⟨g72, rfl, by rw [hTT]; exact hw.sub (.cons_cons _ (List.nil_sublist _)), trivial⟩

end Go.Proofs.YtnhfmmohdiccgaaDoor
