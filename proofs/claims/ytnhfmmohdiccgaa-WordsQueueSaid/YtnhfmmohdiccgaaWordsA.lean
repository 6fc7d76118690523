/-
  Contracts of the functions of package words that only reckon or read. (Printed by words1.py over the walk printer of this session.)
-/
import Derived.Test.YtnhfmmohdiccgaaFacts
import Derived.Test.YtnhfmmohdiccgaaPlainWords
namespace Go.Proofs.Ytnhfmmohdiccgaa
open Go.Sym Plain

theorem rotl_any (X : BitVec 32) (k : Nat) (hk : k < 32) (w : World) : Calls Try.prog 41 [U32 X, .int .i64 (k : Int)].toArray w fun r w' => r = .returned (U32 (X.rotateLeft k)) ∧ Hp w [] [] w' := by
  refine Tr.enter Try.func41 rfl Try.ntmps41 rfl (Hp.refl w) ?_
  refine Tr.seq ?_
  refine Tr.region ?_
  refine Tr.val (V.assign (v := U32 0#32) rfl) rfl ?_
  refine Tr.lNil ?_
  refine Tr.thenN ?_
  refine Tr.seq ?_
  refine Tr.region ?_
  refine Tr.val (V.move rfl) rfl ?_
  refine Tr.val (V.convI_64 Try.runUnderlying3 Try.runUnderlying32 rfl) rfl ?_
  refine Tr.val (V.and64 (Y := 31#64) rfl rfl) rfl ?_
  refine Tr.val (V.assign rfl) rfl ?_
  refine Tr.lNil ?_
  refine Tr.thenN ?_
  refine Tr.seq ?_
  refine Tr.region ?_
  refine Tr.val (V.move rfl) rfl ?_
  refine Tr.val (V.move rfl) rfl ?_
  refine Tr.val (V.shl32 rfl rfl) rfl ?_
  refine Tr.val (V.move rfl) rfl ?_
  refine Tr.val (V.move rfl) rfl ?_
  refine Tr.val (V.sub64 (X := 32#64) rfl rfl) rfl ?_
  refine Tr.val (V.shr32 rfl rfl) rfl ?_
  refine Tr.val (V.or32 rfl rfl) rfl ?_
  refine Tr.val (V.assign rfl) rfl ?_
  refine Tr.lNil ?_
  refine Tr.thenN ?_
  refine Tr.ret ?_
  refine Tr.out1 rfl (Res.tmp rfl) fun w hw => ?_
  exact ⟨by rw [rotl_eq X k hk], hw⟩

theorem rot_any (X : BitVec 32) (i : Int) (w : World) : Calls Try.prog 25 [U32 X, .int .i64 i].toArray w fun r w' => r = .returned (U32 (rotI X i)) ∧ Hp w [] [] w' := by
  obtain ⟨k, hk⟩ : ∃ k : Nat, i % (2 ^ 5 : Nat) = (k : Int) := ⟨(i % (2 ^ 5 : Nat)).toNat, by omega⟩
  refine Tr.enter Try.func25 rfl Try.ntmps25 rfl (Hp.refl w) ?_
  refine Tr.seq ?_
  refine Tr.region ?_
  refine Tr.val (V.assign (v := U32 0#32) rfl) rfl ?_
  refine Tr.lNil ?_
  refine Tr.thenN ?_
  refine Tr.seq ?_
  refine Tr.region ?_
  refine Tr.val (V.move rfl) rfl ?_
  refine Tr.val (V.move rfl) rfl ?_
  refine Tr.val ((by rw [← hk]; exact V.mask (k := 5) rfl rfl (by decide) : VOp Try.prog _ _ _ _ _ _ _ (.int .i64 (k : Int)))) rfl ?_
  refine Tr.op (W.call1 (vs := [U32 X, .int .i64 (k : Int)]) (args2 rfl rfl) Try.call41 rfl (fun w _ => rotl_any X k (by omega) w) ?_)
  refine Tr.val (V.assign rfl) rfl ?_
  refine Tr.lNil ?_
  refine Tr.thenN ?_
  refine Tr.ret ?_
  refine Tr.out1 rfl (Res.tmp rfl) fun w hw => ?_
  exact ⟨by rw [rotI_eq X i k hk], hw⟩

theorem get_ok (p : Option Addr) (m c at0 size : Nat) (big : Bool) (xs : List (BitVec 8)) (w : World) (hr : RdB w p (xs.map U8)) (hl : xs.length = m) (hm : m ≤ 9223372036854775807) (h1 : 1 ≤ size) (h8 : size ≤ 8) (ha : at0 + size ≤ m) :
    Calls Try.prog 20 [.slice p m c, .int .i64 (at0 : Int), .int .i64 (size : Int), .bool big].toArray w fun r w' => r = .returned (.tuple #[U64 (getW big xs at0 size), .bool true]) ∧ Hp w [] [] w' := by
  have hrd : RdP w [] [] p (xs.map U8) := RdP.old hr (fun _ _ => by simp)
  have hp : p.isSome = true := hrd.isSome (Hp.refl w) (by simp; omega)
  refine Tr.enter Try.func20 rfl Try.ntmps20 rfl (Hp.refl w) ?_
  refine Tr.seq ?_
  refine Tr.region ?_
  refine Tr.val (V.assign (v := U64 0#64) rfl) rfl ?_
  refine Tr.val (V.assign rfl) rfl ?_
  refine Tr.lNil ?_
  refine Tr.thenN ?_
  refine Tr.seq ?_
  refine Tr.seq ?_
  refine Tr.region ?_
  refine Tr.val (V.move rfl) rfl ?_
  refine Tr.val (V.lss (b := false) rfl rfl (decide_eq_false (by omega))) rfl ?_
  refine Tr.val (V.move rfl) rfl ?_
  refine Tr.valG rfl (V.move rfl) rfl ?_
  refine Tr.valG rfl (V.gtr (b := false) rfl rfl (decide_eq_false (by omega))) rfl ?_
  refine Tr.val (V.pick rfl rfl) rfl ?_
  refine Tr.val (V.move rfl) rfl ?_
  refine Tr.valG rfl (V.move rfl) rfl ?_
  refine Tr.valG rfl (V.lss (b := false) rfl rfl (decide_eq_false (by omega))) rfl ?_
  refine Tr.val (V.pick rfl rfl) rfl ?_
  refine Tr.val (V.move rfl) rfl ?_
  refine Tr.valG rfl (V.move rfl) rfl ?_
  refine Tr.valG rfl (V.move rfl) rfl ?_
  refine Tr.valG rfl (V.len Try.runUnderlying22 rfl) rfl ?_
  refine Tr.valG rfl (V.move rfl) rfl ?_
  refine Tr.valG rfl (V.sub rfl rfl (by omega)) rfl ?_
  refine Tr.valG rfl (V.gtr (b := false) rfl rfl (decide_eq_false (by omega))) rfl ?_
  refine Tr.val (V.pick rfl rfl) rfl ?_
  refine Tr.lNil ?_
  refine Tr.thenN ?_
  refine Tr.condF rfl ?_
  refine Tr.skip ?_
  refine Tr.thenN ?_
  refine Tr.seq ?_
  refine Tr.seq ?_
  refine Tr.region ?_
  refine Tr.val (V.move rfl) rfl ?_
  refine Tr.val (V.move rfl) rfl ?_
  refine Tr.lNil ?_
  refine Tr.thenN ?_
  refine Tr.block ?_
  refine Tr.loop (ι := Nat) (fun k => k ≤ size) (fun k => [(0, .slice p m c), (1, .int .i64 (at0 : Int)), (2, .int .i64 (size : Int)), (3, .bool big), (8, U64 (getL ((ordB big (cutB xs at0 size)).take k))), (30, .int .i64 (size : Int)), (31, .int .i64 (k : Int))]) (fun _ => []) (fun k => size - k) 0 (Nat.zero_le _)
    (lk_cons rfl (lk_cons rfl (lk_cons rfl (lk_cons rfl (lk_cons rfl (lk_cons rfl (lk_cons rfl (lk_nil _)))))))) (List.Sublist.refl _) fun k hk => ?_
  refine Tr.seq ?_
  refine Tr.region ?_
  refine Tr.val (V.lss rfl rfl rfl) rfl ?_
  refine Tr.lNil ?_
  refine Tr.thenN ?_
  refine Tr.seq ?_
  refine Tr.cond rfl (fun hT1 => ?_) (fun hF1 => ?_)
  · simp only [decide_eq_true_eq] at hT1
    refine Tr.skip ?_
    refine Tr.thenN ?_
    refine Tr.seq ?_
    refine Tr.block ?_
    refine Tr.seq ?_
    refine Tr.region ?_
    refine Tr.val (V.move rfl) rfl ?_
    refine Tr.val (V.assign rfl) rfl ?_
    refine Tr.lNil ?_
    refine Tr.thenN ?_
    refine Tr.seq ?_
    refine Tr.region ?_
    refine Tr.val (V.move rfl) rfl ?_
    refine Tr.val (V.move rfl) rfl ?_
    refine Tr.val (V.add rfl rfl (by omega)) rfl ?_
    refine Tr.val (V.sub rfl rfl (by omega)) rfl ?_
    refine Tr.val (V.move rfl) rfl ?_
    refine Tr.val (V.sub rfl rfl (by omega)) rfl ?_
    refine Tr.val (V.assign rfl) rfl ?_
    refine Tr.lNil ?_
    refine Tr.thenN ?_
    refine Tr.seq ?_
    refine Tr.seq ?_
    refine Tr.region ?_
    refine Tr.val (V.move rfl) rfl ?_
    refine Tr.lNil ?_
    refine Tr.thenN ?_
    refine Tr.cond rfl (fun hT2 => ?_) (fun hF2 => ?_)
    · obtain rfl : big = true := hT2
      have hlt : k < size := by omega
      obtain ⟨b, hb⟩ : ∃ b, xs[at0 + k]? = some b := ⟨_, List.getElem?_eq_getElem (by omega)⟩
      have hstep := ord_T (xs := xs) (at0 := at0) (size := size) (by omega) hlt hb
      obtain ⟨jx, hjx⟩ : ∃ j, j = at0 + k := ⟨_, rfl⟩
      rw [← hjx] at hb
      refine Tr.region ?_
      refine Tr.val (V.move rfl) rfl ?_
      refine Tr.val (V.move rfl) rfl ?_
      refine Tr.val (V.add rfl rfl (by omega)) rfl ?_
      refine Tr.val (V.assign rfl) rfl ?_
      refine Tr.lNil ?_
      refine Tr.thenN ?_
      refine Tr.region ?_
      refine Tr.val (V.move rfl) rfl ?_
      refine Tr.val (V.shl64 (s := 8) rfl rfl) rfl ?_
      refine Tr.val (V.move rfl) rfl ?_
      refine Tr.val (V.move rfl) rfl ?_
      refine Tr.val (V.idxS (j := jx) Try.runUnderlying22 Try.sizeOf5 rfl rfl (by omega) (by omega) hp) rfl ?_
      refine Tr.val (V.load1 Try.isAgg5 rfl (V.cellR hrd (by rw [List.getElem?_map, hb]; rfl))) rfl ?_
      refine Tr.val (V.conv8_64 Try.runUnderlying5 Try.runUnderlying23 rfl) rfl ?_
      refine Tr.val (V.or64 rfl rfl) rfl ?_
      refine Tr.val (V.assign rfl) rfl ?_
      refine Tr.lNil ?_
      refine Tr.inN ?_
      refine Tr.thenN ?_
      refine Tr.region ?_
      refine Tr.val (V.add rfl rfl (by omega)) rfl ?_
      refine Tr.val (V.move rfl) rfl ?_
      refine Tr.lNil ?_
      exact Tr.again (k + 1) (by omega) (by omega) (lk_cons rfl (lk_cons rfl (lk_cons rfl (lk_cons rfl (lk_cons (by rw [hstep]; rfl) (lk_cons rfl (lk_cons rfl (lk_nil _)))))))) (List.Sublist.refl _)
    · obtain rfl : big = false := hF2
      have hlt : k < size := by omega
      obtain ⟨b, hb⟩ : ∃ b, xs[at0 + size - 1 - k]? = some b := ⟨_, List.getElem?_eq_getElem (by omega)⟩
      have hstep := ord_F (xs := xs) (at0 := at0) (size := size) (by omega) hlt hb
      obtain ⟨jx, hjx⟩ : ∃ j, j = at0 + size - 1 - k := ⟨_, rfl⟩
      rw [← hjx] at hb
      refine Tr.skip ?_
      refine Tr.thenN ?_
      refine Tr.region ?_
      refine Tr.val (V.move rfl) rfl ?_
      refine Tr.val (V.shl64 (s := 8) rfl rfl) rfl ?_
      refine Tr.val (V.move rfl) rfl ?_
      refine Tr.val (V.move rfl) rfl ?_
      refine Tr.val (V.idxS (j := jx) Try.runUnderlying22 Try.sizeOf5 rfl rfl (by omega) (by omega) hp) rfl ?_
      refine Tr.val (V.load1 Try.isAgg5 rfl (V.cellR hrd (by rw [List.getElem?_map, hb]; rfl))) rfl ?_
      refine Tr.val (V.conv8_64 Try.runUnderlying5 Try.runUnderlying23 rfl) rfl ?_
      refine Tr.val (V.or64 rfl rfl) rfl ?_
      refine Tr.val (V.assign rfl) rfl ?_
      refine Tr.lNil ?_
      refine Tr.inN ?_
      refine Tr.thenN ?_
      refine Tr.region ?_
      refine Tr.val (V.add rfl rfl (by omega)) rfl ?_
      refine Tr.val (V.move rfl) rfl ?_
      refine Tr.lNil ?_
      exact Tr.again (k + 1) (by omega) (by omega) (lk_cons rfl (lk_cons rfl (lk_cons rfl (lk_cons rfl (lk_cons (by rw [hstep]; rfl) (lk_cons rfl (lk_cons rfl (lk_nil _)))))))) (List.Sublist.refl _)
  · simp only [decide_eq_false_iff_not] at hF1
    refine Tr.exit ?_
    refine Tr.thenX ?_
    refine Tr.thenX ?_
    refine Tr.inHit ?_
    refine Tr.thenN ?_
    refine Tr.seq ?_
    refine Tr.region ?_
    refine Tr.val (V.move rfl) rfl ?_
    refine Tr.val (V.assign rfl) rfl ?_
    refine Tr.val (V.assign rfl) rfl ?_
    refine Tr.lNil ?_
    refine Tr.thenN ?_
    refine Tr.ret ?_
    refine Tr.out2 rfl (Res.tmp rfl) (Res.tmp rfl) fun w hw => ?_
    have hk' : k = size := by omega
    subst hk'
    exact ⟨by rw [getW_full (by omega)], hw⟩

theorem crc_any (p : Option Addr) (m c : Nat) (xs : List (BitVec 8)) (w : World) (hr : RdB w p (xs.map U8)) (hl : xs.length = m) (hm : m ≤ 9223372036854775807) :
    Calls Try.prog 23 [.slice p m c].toArray w fun r w' => r = .returned (U32 (~~~ crcL xs)) ∧ Hp w [] [] w' := by
  have hrd : RdP w [] [] p (xs.map U8) := RdP.old hr (fun _ _ => by simp)
  refine Tr.enter Try.func23 rfl Try.ntmps23 rfl (Hp.refl w) ?_
  refine Tr.seq ?_
  refine Tr.region ?_
  refine Tr.val (V.assign (v := U32 0#32) rfl) rfl ?_
  refine Tr.lNil ?_
  refine Tr.thenN ?_
  refine Tr.seq ?_
  refine Tr.region ?_
  refine Tr.val (V.assign (v := U32 4294967295#32) rfl) rfl ?_
  refine Tr.lNil ?_
  refine Tr.thenN ?_
  refine Tr.seq ?_
  refine Tr.seq ?_
  refine Tr.region ?_
  refine Tr.val (V.move rfl) rfl ?_
  refine Tr.val (V.len Try.runUnderlying22 rfl) rfl ?_
  refine Tr.val (V.move rfl) rfl ?_
  refine Tr.lNil ?_
  refine Tr.thenN ?_
  refine Tr.block ?_
  refine Tr.loop (ι := Nat) (fun k => k ≤ m) (fun k => [(3, U32 (crcL (xs.take k))), (6, .slice p m c), (7, .int .i64 (m : Int)), (8, .int .i64 (k : Int))]) (fun k => []) (fun k => m - k) 0 (Nat.zero_le _) (lk_cons rfl (lk_cons rfl (lk_cons rfl (lk_cons rfl (lk_nil _))))) (List.Sublist.refl _) fun k hI => ?_
  refine Tr.seq ?_
  refine Tr.region ?_
  refine Tr.val (V.lss rfl rfl rfl) rfl ?_
  refine Tr.lNil ?_
  refine Tr.thenN ?_
  refine Tr.seq ?_
  refine Tr.cond rfl (fun hT0 => ?_) (fun hF0 => ?_)
  · simp only [decide_eq_true_eq] at hT0
    have hlt : k < m := by omega
    obtain ⟨b, hb⟩ : ∃ b, xs[k]? = some b := ⟨_, List.getElem?_eq_getElem (by omega)⟩
    have hp : p.isSome = true := hrd.isSome (Hp.refl w) (by simp; omega)
    refine Tr.skip ?_
    refine Tr.thenN ?_
    refine Tr.seq ?_
    refine Tr.block ?_
    refine Tr.seq ?_
    refine Tr.region ?_
    refine Tr.val (V.idxS (j := k) Try.runUnderlying22 Try.sizeOf5 rfl rfl (by omega) (by omega) hp) rfl ?_
    refine Tr.val (V.load1 Try.isAgg5 rfl (V.cellR hrd (by rw [List.getElem?_map, hb]; rfl))) rfl ?_
    refine Tr.val (V.assign rfl) rfl ?_
    refine Tr.lNil ?_
    refine Tr.thenN ?_
    refine Tr.seq ?_
    refine Tr.region ?_
    refine Tr.val (V.move rfl) rfl ?_
    refine Tr.val (V.move rfl) rfl ?_
    refine Tr.val (V.conv8_32 Try.runUnderlying5 Try.runUnderlying29 rfl) rfl ?_
    refine Tr.val (V.xor32 rfl rfl) rfl ?_
    refine Tr.val (V.assign rfl) rfl ?_
    refine Tr.lNil ?_
    refine Tr.thenN ?_
    refine Tr.seq ?_
    refine Tr.region ?_
    refine Tr.val (V.move rfl) rfl ?_
    refine Tr.lNil ?_
    refine Tr.thenN ?_
    refine Tr.block ?_
    refine Tr.loop (ι := Nat) (fun i => i ≤ 8) (fun i => [(3, U32 (rep crcBit i (crcL (xs.take k) ^^^ b.setWidth 32))), (6, .slice p m c), (7, .int .i64 (m : Int)), (8, .int .i64 (k : Int)), (16, .int .i64 (i : Int))]) (fun i => []) (fun i => 8 - i) 0 (Nat.zero_le _) (lk_cons rfl (lk_cons rfl (lk_cons rfl (lk_cons rfl (lk_cons rfl (lk_nil _)))))) (List.Sublist.refl _) fun i hI => ?_
    refine Tr.seq ?_
    refine Tr.region ?_
    refine Tr.val (V.lss rfl rfl rfl) rfl ?_
    refine Tr.lNil ?_
    refine Tr.thenN ?_
    refine Tr.seq ?_
    refine Tr.cond rfl (fun hT1 => ?_) (fun hF1 => ?_)
    · simp only [decide_eq_true_eq] at hT1
      refine Tr.skip ?_
      refine Tr.thenN ?_
      refine Tr.seq ?_
      refine Tr.block ?_
      refine Tr.region ?_
      refine Tr.val (V.move rfl) rfl ?_
      refine Tr.val (V.shr32 (s := 1) rfl rfl) rfl ?_
      refine Tr.val (V.move rfl) rfl ?_
      refine Tr.val (V.and32 (Y := 1#32) rfl rfl) rfl ?_
      refine Tr.val (V.neg32 rfl) rfl ?_
      refine Tr.val (V.and32 (X := 3988292384#32) rfl rfl) rfl ?_
      refine Tr.val (V.xor32 rfl rfl) rfl ?_
      refine Tr.val (V.assign rfl) rfl ?_
      refine Tr.lNil ?_
      refine Tr.inN ?_
      refine Tr.thenN ?_
      refine Tr.region ?_
      refine Tr.val (V.add rfl rfl (by omega)) rfl ?_
      refine Tr.val (V.move rfl) rfl ?_
      refine Tr.lNil ?_
      exact Tr.again (i + 1) (by omega) (by omega) (lk_cons rfl (lk_cons rfl (lk_cons rfl (lk_cons rfl (lk_cons rfl (lk_nil _)))))) (List.Sublist.refl _)
    · simp only [decide_eq_false_iff_not] at hF1
      obtain rfl : i = 8 := by omega
      have he8 : ∀ {o : Option Value}, o = some (U32 (crcByte (crcL (xs.take k)) b)) → o = some (U32 (crcByte (crcL (xs.take k)) b)) := id
      clear he8
      have he8 := (rfl : some (U32 (rep crcBit 8 (crcL (xs.take k) ^^^ b.setWidth 32))) = some (U32 (crcByte (crcL (xs.take k)) b)))
      refine Tr.exit ?_
      refine Tr.thenX ?_
      refine Tr.thenX ?_
      refine Tr.inHit ?_
      refine Tr.inN ?_
      refine Tr.thenN ?_
      refine Tr.region ?_
      refine Tr.val (V.add rfl rfl (by omega)) rfl ?_
      refine Tr.val (V.move rfl) rfl ?_
      refine Tr.lNil ?_
      exact Tr.again (k + 1) (by omega) (by omega) (lk_cons (by rw [crcL_take hb]; exact he8) (lk_cons rfl (lk_cons rfl (lk_cons rfl (lk_nil _))))) (List.Sublist.refl _)
  · simp only [decide_eq_false_iff_not] at hF0
    refine Tr.exit ?_
    refine Tr.thenX ?_
    refine Tr.thenX ?_
    refine Tr.inHit ?_
    refine Tr.thenN ?_
    refine Tr.seq ?_
    refine Tr.region ?_
    refine Tr.val (V.move rfl) rfl ?_
    refine Tr.val (V.com32 rfl) rfl ?_
    refine Tr.val (V.assign rfl) rfl ?_
    refine Tr.lNil ?_
    refine Tr.thenN ?_
    refine Tr.ret ?_
    refine Tr.out1 rfl (Res.tmp rfl) fun w hw => ?_
    obtain rfl : k = m := by omega
    exact ⟨by rw [List.take_of_length_le (by omega)], hw⟩

theorem xor_any (p q : Option Addr) (m c m2 c2 : Nat) (xs ys : List (BitVec 8)) (w : World) (hr : RdB w p (xs.map U8)) (hr2 : RdB w q (ys.map U8)) (hl : xs.length = m) (hl2 : ys.length = m2) (hm : m ≤ 281474976710656) (hm2 : m2 ≤ 281474976710656) :
    Calls Try.prog 27 [.slice p m c, .slice q m2 c2].toArray w fun r w' => ∃ g, r = .returned (.slice (some ⟨g, 0, none⟩) (xorL xs ys).length (xorL xs ys).length) ∧ Hp w [] [⟨g, 5, (xorL xs ys).map U8⟩] w' := by
  obtain ⟨zs, hzs⟩ : ∃ zs, zs = xorL xs ys := ⟨_, rfl⟩
  have hzl : zs.length = min m m2 := by rw [hzs, xorL_len, hl, hl2]
  have hzm : (if (m2 : Int) < (m : Int) then (m2 : Int) else (m : Int)) = (zs.length : Int) := by rw [hzl]; split <;> omega
  refine Tr.enter Try.func27 rfl Try.ntmps27 rfl (Hp.refl w) ?_
  refine Tr.seq ?_
  refine Tr.region ?_
  refine Tr.val (V.assign rfl) rfl ?_
  refine Tr.lNil ?_
  refine Tr.thenN ?_
  refine Tr.seq ?_
  refine Tr.region ?_
  refine Tr.val (V.move rfl) rfl ?_
  refine Tr.val (V.len Try.runUnderlying22 rfl) rfl ?_
  refine Tr.val (V.move rfl) rfl ?_
  refine Tr.val (V.len Try.runUnderlying22 rfl) rfl ?_
  refine Tr.val (V.min rfl rfl hzm) rfl ?_
  refine Tr.op (W.makeSlice elem22 rfl rfl rfl rfl (Nat.le_refl _) (by omega) (by omega) rfl fun g => ?_)
  refine Tr.val (V.assign rfl) rfl ?_
  refine Tr.lNil ?_
  refine Tr.thenN ?_
  refine Tr.seq ?_
  refine Tr.seq ?_
  refine Tr.region ?_
  refine Tr.val (V.move rfl) rfl ?_
  refine Tr.val (V.len Try.runUnderlying22 rfl) rfl ?_
  refine Tr.val (V.move rfl) rfl ?_
  refine Tr.lNil ?_
  refine Tr.thenN ?_
  refine Tr.block ?_
  refine Tr.loop (ι := Nat) (fun k => k ≤ zs.length) (fun k => [(0, .slice p m c), (1, .slice q m2 c2), (5, .slice (some ⟨g, 0, none⟩) zs.length zs.length), (14, .int .i64 (zs.length : Int)), (15, .int .i64 (k : Int))]) (fun k => [⟨g, 5, (fillL zs k).map U8⟩]) (fun k => zs.length - k) 0 (Nat.zero_le _) (lk_cons rfl (lk_cons rfl (lk_cons rfl (lk_cons rfl (lk_cons rfl (lk_nil _)))))) (by rw [fillL_zero, List.map_replicate]; exact List.Sublist.refl _) fun k hI => ?_
  refine Tr.seq ?_
  refine Tr.region ?_
  refine Tr.val (V.lss rfl rfl rfl) rfl ?_
  refine Tr.lNil ?_
  refine Tr.thenN ?_
  refine Tr.seq ?_
  refine Tr.cond rfl (fun hT0 => ?_) (fun hF0 => ?_)
  · simp only [decide_eq_true_eq] at hT0
    have hlt : k < zs.length := by omega
    obtain ⟨a, ha⟩ : ∃ b, xs[k]? = some b := ⟨_, List.getElem?_eq_getElem (by omega)⟩
    obtain ⟨b, hb⟩ : ∃ b, ys[k]? = some b := ⟨_, List.getElem?_eq_getElem (by omega)⟩
    have hz : zs[k]? = some (a ^^^ b) := by rw [hzs]; exact xorL_get ha hb
    have hset : ((fillL zs k).map U8).set k (U8 (a ^^^ b)) = (fillL zs (k + 1)).map U8 := by rw [← fillL_set hz, List.map_set]
    have hrd : RdP w [] [⟨g, 5, (fillL zs k).map U8⟩] p (xs.map U8) := RdP.old hr (fun _ _ => by simp)
    have hrd2 : RdP w [] [⟨g, 5, (fillL zs k).map U8⟩] q (ys.map U8) := RdP.old hr2 (fun _ _ => by simp)
    have hp : p.isSome = true := (hr k _ (by rw [List.getElem?_map, ha]; rfl)).1
    have hp2 : q.isSome = true := (hr2 k _ (by rw [List.getElem?_map, hb]; rfl)).1
    refine Tr.skip ?_
    refine Tr.thenN ?_
    refine Tr.seq ?_
    refine Tr.block ?_
    refine Tr.seq ?_
    refine Tr.region ?_
    refine Tr.val (V.move rfl) rfl ?_
    refine Tr.val (V.assign rfl) rfl ?_
    refine Tr.lNil ?_
    refine Tr.thenN ?_
    refine Tr.regionD [0, 0, 0, 0, 12, 28, 0, 0, 192, 448, 1020, 2047, 4095] [12] (.pure 0 (.pure 1 (.pure 2 (.pure 3 (.pure 4 (.soft 5 (.pure 6 (.pure 7 (.pure 8 (.soft 9 (.pure 10 (.pure 11 (.hard 12 .done))))))))))))) mixed (by kernel_rfl) ?_
    refine TrP.pure rfl (fun _ => V.move rfl) rfl ?_
    refine TrP.pure rfl (fun _ => V.move rfl) rfl ?_
    refine TrP.pure rfl (fun _ => V.move rfl) rfl ?_
    refine TrP.pure rfl (fun _ => V.move rfl) rfl ?_
    refine TrP.pure rfl (fun _ => V.idxS (j := k) Try.runUnderlying22 Try.sizeOf5 rfl rfl (by omega) (by omega) hp) rfl ?_
    refine TrP.soft rfl (V.load1 Try.isAgg5 rfl (V.cellR hrd (by rw [List.getElem?_map, ha]; rfl))) rfl ?_
    refine TrP.pure rfl (fun _ => V.move rfl) rfl ?_
    refine TrP.pure rfl (fun _ => V.move rfl) rfl ?_
    refine TrP.pure rfl (fun _ => V.idxS (j := k) Try.runUnderlying22 Try.sizeOf5 rfl rfl (by omega) (by omega) hp2) rfl ?_
    refine TrP.soft rfl (V.load1 Try.isAgg5 rfl (V.cellR hrd2 (by rw [List.getElem?_map, hb]; rfl))) rfl ?_
    refine TrP.pure rfl (fun _ => V.xor8 rfl rfl) rfl ?_
    refine TrP.pure rfl (fun _ => V.idxO (j := k) Try.runUnderlying22 Try.sizeOf5 rfl rfl (by omega) (by omega) (Nat.zero_add _)) rfl ?_
    refine TrP.hard rfl (W.store1 Try.sizeOf5 rfl rfl rfl rfl (by repeat (first | exact Upd.head | apply Upd.tail)) (by rw [List.length_map, fillL_len (by omega)]; exact hlt) ?_)
    refine Tr.pTail rfl ?_
    refine TrP.done ?_
    refine Tr.inN ?_
    refine Tr.thenN ?_
    refine Tr.region ?_
    refine Tr.val (V.add rfl rfl (by omega)) rfl ?_
    refine Tr.val (V.move rfl) rfl ?_
    refine Tr.lNil ?_
    exact Tr.again (k + 1) (by omega) (by omega) (lk_cons rfl (lk_cons rfl (lk_cons rfl (lk_cons rfl (lk_cons rfl (lk_nil _)))))) (by rw [← hset]; exact List.Sublist.refl _)
  · simp only [decide_eq_false_iff_not] at hF0
    refine Tr.exit ?_
    refine Tr.thenX ?_
    refine Tr.thenX ?_
    refine Tr.inHit ?_
    refine Tr.thenN ?_
    refine Tr.seq ?_
    refine Tr.region ?_
    refine Tr.val (V.move rfl) rfl ?_
    refine Tr.val (V.assign rfl) rfl ?_
    refine Tr.lNil ?_
    refine Tr.thenN ?_
    refine Tr.ret ?_
    refine Tr.out1 rfl (Res.tmp rfl) fun w hw => ?_
    obtain rfl : k = zs.length := by omega
    rw [fillL_all, hzs] at hw
    exact ⟨g, by rw [hzs], hw⟩

theorem same_any (p q : Option Addr) (m c m2 c2 : Nat) (xs ys : List (BitVec 8)) (w : World) (hr : RdB w p (xs.map U8)) (hr2 : RdB w q (ys.map U8)) (hl : xs.length = m) (hl2 : ys.length = m2) (hm : m ≤ 9223372036854775807) (hm2 : m2 ≤ 9223372036854775807) :
    Calls Try.prog 29 [.slice p m c, .slice q m2 c2].toArray w fun r w' => r = .returned (.bool (decide (xs = ys))) ∧ Hp w [] [] w' := by
  have hrd : RdP w [] [] p (xs.map U8) := RdP.old hr (fun _ _ => by simp)
  have hrd2 : RdP w [] [] q (ys.map U8) := RdP.old hr2 (fun _ _ => by simp)
  refine Tr.enter Try.func29 rfl Try.ntmps29 rfl (Hp.refl w) ?_
  refine Tr.seq ?_
  refine Tr.region ?_
  refine Tr.val (V.assign rfl) rfl ?_
  refine Tr.lNil ?_
  refine Tr.thenN ?_
  refine Tr.seq ?_
  refine Tr.seq ?_
  refine Tr.region ?_
  refine Tr.val (V.move rfl) rfl ?_
  refine Tr.val (V.len Try.runUnderlying22 rfl) rfl ?_
  refine Tr.val (V.move rfl) rfl ?_
  refine Tr.val (V.len Try.runUnderlying22 rfl) rfl ?_
  refine Tr.val (V.neq rfl rfl rfl) rfl ?_
  refine Tr.lNil ?_
  refine Tr.thenN ?_
  refine Tr.cond rfl (fun hT0 => ?_) (fun hF0 => ?_)
  · simp only [decide_eq_true_eq] at hT0
    have hne : ¬ xs = ys := fun h => hT0 (by rw [← hl, ← hl2, h])
    refine Tr.seq ?_
    refine Tr.region ?_
    refine Tr.val (V.assign rfl) rfl ?_
    refine Tr.lNil ?_
    refine Tr.thenN ?_
    refine Tr.ret ?_
    refine Tr.thenR ?_
    refine Tr.out1 rfl (Res.tmp rfl) fun w hw => ?_
    exact ⟨by rw [decide_eq_false hne], hw⟩
  · simp only [decide_eq_false_iff_not, Classical.not_not] at hF0
    obtain rfl : m = m2 := by omega
    refine Tr.skip ?_
    refine Tr.thenN ?_
    refine Tr.seq ?_
    refine Tr.region ?_
    refine Tr.val (V.assign (v := U8 0#8) rfl) rfl ?_
    refine Tr.lNil ?_
    refine Tr.thenN ?_
    refine Tr.seq ?_
    refine Tr.seq ?_
    refine Tr.region ?_
    refine Tr.val (V.move rfl) rfl ?_
    refine Tr.val (V.len Try.runUnderlying22 rfl) rfl ?_
    refine Tr.val (V.move rfl) rfl ?_
    refine Tr.lNil ?_
    refine Tr.thenN ?_
    refine Tr.block ?_
    refine Tr.loop (ι := Nat) (fun k => k ≤ m) (fun k => [(1, .slice q m c2), (5, U8 (sameL (xs.take k) (ys.take k))), (13, .slice p m c), (14, .int .i64 (m : Int)), (15, .int .i64 (k : Int))]) (fun k => []) (fun k => m - k) 0 (Nat.zero_le _) (lk_cons rfl (lk_cons rfl (lk_cons rfl (lk_cons rfl (lk_cons rfl (lk_nil _)))))) (List.Sublist.refl _) fun k hI => ?_
    refine Tr.seq ?_
    refine Tr.region ?_
    refine Tr.val (V.lss rfl rfl rfl) rfl ?_
    refine Tr.lNil ?_
    refine Tr.thenN ?_
    refine Tr.seq ?_
    refine Tr.cond rfl (fun hT1 => ?_) (fun hF1 => ?_)
    · simp only [decide_eq_true_eq] at hT1
      have hlt : k < m := by omega
      obtain ⟨a, ha⟩ : ∃ b, xs[k]? = some b := ⟨_, List.getElem?_eq_getElem (by omega)⟩
      obtain ⟨b, hb⟩ : ∃ b, ys[k]? = some b := ⟨_, List.getElem?_eq_getElem (by omega)⟩
      have hp : p.isSome = true := (hr k _ (by rw [List.getElem?_map, ha]; rfl)).1
      have hp2 : q.isSome = true := (hr2 k _ (by rw [List.getElem?_map, hb]; rfl)).1
      have hst := sameL_take ha hb
      refine Tr.skip ?_
      refine Tr.thenN ?_
      refine Tr.seq ?_
      refine Tr.block ?_
      refine Tr.seq ?_
      refine Tr.region ?_
      refine Tr.val (V.move rfl) rfl ?_
      refine Tr.val (V.idxS (j := k) Try.runUnderlying22 Try.sizeOf5 rfl rfl (by omega) (by omega) hp) rfl ?_
      refine Tr.val (V.load1 Try.isAgg5 rfl (V.cellR hrd (by rw [List.getElem?_map, ha]; rfl))) rfl ?_
      refine Tr.val (V.assign rfl) rfl ?_
      refine Tr.val (V.assign rfl) rfl ?_
      refine Tr.lNil ?_
      refine Tr.thenN ?_
      refine Tr.region ?_
      refine Tr.val (V.move rfl) rfl ?_
      refine Tr.val (V.move rfl) rfl ?_
      refine Tr.val (V.move rfl) rfl ?_
      refine Tr.val (V.move rfl) rfl ?_
      refine Tr.val (V.idxS (j := k) Try.runUnderlying22 Try.sizeOf5 rfl rfl (by omega) (by omega) hp2) rfl ?_
      refine Tr.val (V.load1 Try.isAgg5 rfl (V.cellR hrd2 (by rw [List.getElem?_map, hb]; rfl))) rfl ?_
      refine Tr.val (V.xor8 rfl rfl) rfl ?_
      refine Tr.val (V.or8 rfl rfl) rfl ?_
      refine Tr.val (V.assign rfl) rfl ?_
      refine Tr.lNil ?_
      refine Tr.inN ?_
      refine Tr.thenN ?_
      refine Tr.region ?_
      refine Tr.val (V.add rfl rfl (by omega)) rfl ?_
      refine Tr.val (V.move rfl) rfl ?_
      refine Tr.lNil ?_
      exact Tr.again (k + 1) (by omega) (by omega) (lk_cons rfl (lk_cons (by rw [hst]; rfl) (lk_cons rfl (lk_cons rfl (lk_cons rfl (lk_nil _)))))) (List.Sublist.refl _)
    · simp only [decide_eq_false_iff_not] at hF1
      refine Tr.exit ?_
      refine Tr.thenX ?_
      refine Tr.thenX ?_
      refine Tr.inHit ?_
      refine Tr.thenN ?_
      refine Tr.seq ?_
      refine Tr.region ?_
      refine Tr.val (V.move rfl) rfl ?_
      refine Tr.val (V.eql8 (Y := 0#8) rfl rfl rfl) rfl ?_
      refine Tr.val (V.assign rfl) rfl ?_
      refine Tr.lNil ?_
      refine Tr.thenN ?_
      refine Tr.ret ?_
      refine Tr.out1 rfl (Res.tmp rfl) fun w hw => ?_
      obtain rfl : k = m := by omega
      refine ⟨?_, hw⟩
      rw [List.take_of_length_le (by omega), List.take_of_length_le (by omega)]
      by_cases h : xs = ys
      · rw [decide_eq_true h, decide_eq_true ((sameL_zero (by omega)).2 h)]
      · rw [decide_eq_false h, decide_eq_false (fun h' => h ((sameL_zero (by omega)).1 h'))]

end Go.Proofs.Ytnhfmmohdiccgaa
