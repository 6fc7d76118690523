/-
  Contracts of the functions of hatchwayref01. (Printed by ref1.py over the walk printer of this session.)
-/
import Derived.Test.YtnhfmmohdiccgaaWordsA
set_option maxRecDepth 20000
namespace Go.Proofs.Ytnhfmmohdiccgaa
open Go.Sym Plain

theorem rget_ok (p : Option Addr) (m c at0 size : Nat) (big : Bool) (xs : List (BitVec 8)) (w : World) (hr : RdB w p (xs.map U8)) (hl : xs.length = m) (hm : m ≤ 9223372036854775807) (h1 : 1 ≤ size) (h8 : size ≤ 8) (ha : at0 + size ≤ m) :
    Calls Try.prog 21 [.slice p m c, .int .i64 (at0 : Int), .int .i64 (size : Int), .bool big].toArray w fun r w' => r = .returned (.tuple #[U64 (getW big xs at0 size), .bool true]) ∧ Hp w [] [] w' := by
  have hrd : RdP w [] [] p (xs.map U8) := RdP.old hr (fun _ _ => by simp)
  have hp : p.isSome = true := hrd.isSome (Hp.refl w) (by simp; omega)
  refine Tr.enter Try.func21 rfl Try.ntmps21 rfl (Hp.refl w) ?_
  refine Tr.seq ?_
  refine Tr.region ?_
  refine Tr.val (V.assign (v := U64 0#64) rfl) rfl ?_
  refine Tr.val (V.assign rfl) rfl ?_
  refine Tr.lNil ?_
  refine Tr.thenN ?_
  refine Tr.seq ?_
  refine Tr.seq ?_
  refine Tr.region ?_
  refine Tr.val (V.move rfl) rfl ?_
  refine Tr.val (V.lss (b := false) rfl rfl (decide_eq_false (by omega))) rfl ?_
  refine Tr.val (V.move rfl) rfl ?_
  refine Tr.valG rfl (V.move rfl) rfl ?_
  refine Tr.valG rfl (V.gtr (b := false) rfl rfl (decide_eq_false (by omega))) rfl ?_
  refine Tr.val (V.pick rfl rfl) rfl ?_
  refine Tr.val (V.move rfl) rfl ?_
  refine Tr.valG rfl (V.move rfl) rfl ?_
  refine Tr.valG rfl (V.lss (b := false) rfl rfl (decide_eq_false (by omega))) rfl ?_
  refine Tr.val (V.pick rfl rfl) rfl ?_
  refine Tr.val (V.move rfl) rfl ?_
  refine Tr.valG rfl (V.move rfl) rfl ?_
  refine Tr.valG rfl (V.move rfl) rfl ?_
  refine Tr.valG rfl (V.len Try.runUnderlying22 rfl) rfl ?_
  refine Tr.valG rfl (V.gtr (b := false) rfl rfl (decide_eq_false (by omega))) rfl ?_
  refine Tr.val (V.pick rfl rfl) rfl ?_
  refine Tr.val (V.move rfl) rfl ?_
  refine Tr.valG rfl (V.move rfl) rfl ?_
  refine Tr.valG rfl (V.move rfl) rfl ?_
  refine Tr.valG rfl (V.len Try.runUnderlying22 rfl) rfl ?_
  refine Tr.valG rfl (V.move rfl) rfl ?_
  refine Tr.valG rfl (V.sub rfl rfl (by omega)) rfl ?_
  refine Tr.valG rfl (V.gtr (b := false) rfl rfl (decide_eq_false (by omega))) rfl ?_
  refine Tr.val (V.pick rfl rfl) rfl ?_
  refine Tr.lNil ?_
  refine Tr.thenN ?_
  refine Tr.condF rfl ?_
  refine Tr.skip ?_
  refine Tr.thenN ?_
  refine Tr.seq ?_
  refine Tr.region ?_
  refine Tr.val (V.assign (v := U64 0#64) rfl) rfl ?_
  refine Tr.lNil ?_
  refine Tr.thenN ?_
  refine Tr.seq ?_
  refine Tr.seq ?_
  refine Tr.region ?_
  refine Tr.val (V.assign rfl) rfl ?_
  refine Tr.lNil ?_
  refine Tr.thenN ?_
  refine Tr.block ?_
  refine Tr.loop (ι := Nat) (fun k => k ≤ size) (fun k => [(0, .slice p m c), (1, .int .i64 (at0 : Int)), (2, .int .i64 (size : Int)), (3, .bool big), (10, U64 (getL ((ordB big (cutB xs at0 size)).take k))), (11, .int .i64 (k : Int))]) (fun k => []) (fun k => size - k) 0 (Nat.zero_le _) (lk_cons rfl (lk_cons rfl (lk_cons rfl (lk_cons rfl (lk_cons rfl (lk_cons rfl (lk_nil _))))))) (List.Sublist.refl _) fun k hI => ?_
  refine Tr.seq ?_
  refine Tr.seq ?_
  refine Tr.region ?_
  refine Tr.val (V.move rfl) rfl ?_
  refine Tr.val (V.move rfl) rfl ?_
  refine Tr.val (V.lss rfl rfl rfl) rfl ?_
  refine Tr.lNil ?_
  refine Tr.thenN ?_
  refine Tr.cond rfl (fun hT1 => ?_) (fun hF1 => ?_)
  · simp only [decide_eq_true_eq] at hT1
    refine Tr.skip ?_
    refine Tr.thenN ?_
    refine Tr.seq ?_
    refine Tr.block ?_
    refine Tr.seq ?_
    refine Tr.region ?_
    refine Tr.val (V.move rfl) rfl ?_
    refine Tr.val (V.sub rfl rfl (by omega)) rfl ?_
    refine Tr.val (V.move rfl) rfl ?_
    refine Tr.val (V.sub rfl rfl (by omega)) rfl ?_
    refine Tr.val (V.assign rfl) rfl ?_
    refine Tr.lNil ?_
    refine Tr.thenN ?_
    refine Tr.seq ?_
    refine Tr.seq ?_
    refine Tr.region ?_
    refine Tr.val (V.move rfl) rfl ?_
    refine Tr.lNil ?_
    refine Tr.thenN ?_
    refine Tr.cond rfl (fun hT2 => ?_) (fun hF2 => ?_)
    · obtain rfl : big = true := hT2
      have hlt : k < size := by omega
      obtain ⟨b, hb⟩ : ∃ b, xs[at0 + k]? = some b := ⟨_, List.getElem?_eq_getElem (by omega)⟩
      have hstep := ord_T (xs := xs) (at0 := at0) (size := size) (by omega) hlt hb
      obtain ⟨jx, hjx⟩ : ∃ j, j = at0 + k := ⟨_, rfl⟩
      rw [← hjx] at hb
      refine Tr.region ?_
      refine Tr.val (V.move rfl) rfl ?_
      refine Tr.val (V.assign rfl) rfl ?_
      refine Tr.lNil ?_
      refine Tr.thenN ?_
      refine Tr.region ?_
      refine Tr.val (V.move rfl) rfl ?_
      refine Tr.val (V.mul64 (Y := 256#64) rfl rfl) rfl ?_
      refine Tr.val (V.move rfl) rfl ?_
      refine Tr.val (V.move rfl) rfl ?_
      refine Tr.val (V.move rfl) rfl ?_
      refine Tr.val (V.add rfl rfl (by omega)) rfl ?_
      refine Tr.val (V.idxS (j := jx) Try.runUnderlying22 Try.sizeOf5 rfl rfl (by omega) (by omega) hp) rfl ?_
      refine Tr.val (V.load1 Try.isAgg5 rfl (V.cellR hrd (by rw [List.getElem?_map, hb]; rfl))) rfl ?_
      refine Tr.val (V.conv8_64 Try.runUnderlying5 Try.runUnderlying23 rfl) rfl ?_
      refine Tr.val (V.add64 rfl rfl) rfl ?_
      refine Tr.val (V.assign rfl) rfl ?_
      refine Tr.lNil ?_
      refine Tr.inN ?_
      refine Tr.thenN ?_
      refine Tr.region ?_
      refine Tr.val (V.move rfl) rfl ?_
      refine Tr.val (V.add rfl rfl (by omega)) rfl ?_
      refine Tr.val (V.assign rfl) rfl ?_
      refine Tr.lNil ?_
      exact Tr.again (k + 1) (by omega) (by omega) (lk_cons rfl (lk_cons rfl (lk_cons rfl (lk_cons rfl (lk_cons (by rw [hstep, ← mul_add_or]; rfl) (lk_cons rfl (lk_nil _))))))) (List.Sublist.refl _)
    · obtain rfl : big = false := hF2
      have hlt : k < size := by omega
      obtain ⟨b, hb⟩ : ∃ b, xs[at0 + size - 1 - k]? = some b := ⟨_, List.getElem?_eq_getElem (by omega)⟩
      have hstep := ord_F (xs := xs) (at0 := at0) (size := size) (by omega) hlt hb
      obtain ⟨jx, hjx⟩ : ∃ j, j = at0 + size - 1 - k := ⟨_, rfl⟩
      rw [← hjx] at hb
      refine Tr.skip ?_
      refine Tr.thenN ?_
      refine Tr.region ?_
      refine Tr.val (V.move rfl) rfl ?_
      refine Tr.val (V.mul64 (Y := 256#64) rfl rfl) rfl ?_
      refine Tr.val (V.move rfl) rfl ?_
      refine Tr.val (V.move rfl) rfl ?_
      refine Tr.val (V.move rfl) rfl ?_
      refine Tr.val (V.add rfl rfl (by omega)) rfl ?_
      refine Tr.val (V.idxS (j := jx) Try.runUnderlying22 Try.sizeOf5 rfl rfl (by omega) (by omega) hp) rfl ?_
      refine Tr.val (V.load1 Try.isAgg5 rfl (V.cellR hrd (by rw [List.getElem?_map, hb]; rfl))) rfl ?_
      refine Tr.val (V.conv8_64 Try.runUnderlying5 Try.runUnderlying23 rfl) rfl ?_
      refine Tr.val (V.add64 rfl rfl) rfl ?_
      refine Tr.val (V.assign rfl) rfl ?_
      refine Tr.lNil ?_
      refine Tr.inN ?_
      refine Tr.thenN ?_
      refine Tr.region ?_
      refine Tr.val (V.move rfl) rfl ?_
      refine Tr.val (V.add rfl rfl (by omega)) rfl ?_
      refine Tr.val (V.assign rfl) rfl ?_
      refine Tr.lNil ?_
      exact Tr.again (k + 1) (by omega) (by omega) (lk_cons rfl (lk_cons rfl (lk_cons rfl (lk_cons rfl (lk_cons (by rw [hstep, ← mul_add_or]; rfl) (lk_cons rfl (lk_nil _))))))) (List.Sublist.refl _)
  · simp only [decide_eq_false_iff_not] at hF1
    refine Tr.exit ?_
    refine Tr.thenX ?_
    refine Tr.thenX ?_
    refine Tr.inHit ?_
    refine Tr.thenN ?_
    refine Tr.seq ?_
    refine Tr.region ?_
    refine Tr.val (V.move rfl) rfl ?_
    refine Tr.val (V.assign rfl) rfl ?_
    refine Tr.val (V.assign rfl) rfl ?_
    refine Tr.lNil ?_
    refine Tr.thenN ?_
    refine Tr.ret ?_
    refine Tr.out2 rfl (Res.tmp rfl) (Res.tmp rfl) fun w hw => ?_
    have hk' : k = size := by omega
    subst hk'
    exact ⟨by rw [getW_full (by omega)], hw⟩

theorem rrot_any (X : BitVec 32) (i : Int) (w : World) : Calls Try.prog 26 [U32 X, .int .i64 i].toArray w fun r w' => r = .returned (U32 (rotI X i)) ∧ Hp w [] [] w' := by
  obtain ⟨ht1, ht2, ht3, ht4⟩ := tmod32 i
  refine Tr.enter Try.func26 rfl Try.ntmps26 rfl (Hp.refl w) ?_
  refine Tr.seq ?_
  refine Tr.region ?_
  refine Tr.val (V.assign (v := U32 0#32) rfl) rfl ?_
  refine Tr.lNil ?_
  refine Tr.thenN ?_
  refine Tr.seq ?_
  refine Tr.region ?_
  refine Tr.val (V.move rfl) rfl ?_
  refine Tr.val (V.remT rfl rfl (by decide)) rfl ?_
  refine Tr.val (V.assign rfl) rfl ?_
  refine Tr.lNil ?_
  refine Tr.thenN ?_
  refine Tr.seq ?_
  refine Tr.seq ?_
  refine Tr.region ?_
  refine Tr.val (V.move rfl) rfl ?_
  refine Tr.val (V.lss rfl rfl rfl) rfl ?_
  refine Tr.lNil ?_
  refine Tr.thenN ?_
  refine Tr.cond rfl (fun hT0 => ?_) (fun hF0 => ?_)
  · simp only [decide_eq_true_eq] at hT0
    obtain ⟨q, hq, hq2⟩ : ∃ q : Nat, i.tmod 32 + 32 = (q : Int) ∧ i % 32 = (q : Int) := ⟨(i.tmod 32 + 32).toNat, by omega, by rw [ht1 hT0]; omega⟩
    refine Tr.region ?_
    refine Tr.val (V.move rfl) rfl ?_
    refine Tr.val (V.add rfl rfl (by omega)) rfl ?_
    refine Tr.val (V.assign rfl) rfl ?_
    refine Tr.lNil ?_
    refine Tr.thenN ?_
    refine Tr.seq ?_
    refine Tr.seq ?_
    refine Tr.region ?_
    refine Tr.val (V.assign rfl) rfl ?_
    refine Tr.lNil ?_
    refine Tr.thenN ?_
    refine Tr.block ?_
    refine Tr.loop (ι := Nat) (fun k => k ≤ q) (fun k => [(0, U32 (rep rot1 k X)), (1, .int .i64 (q : Int)), (5, .int .i64 (k : Int))]) (fun k => []) (fun k => q - k) 0 (Nat.zero_le _) (lk_cons rfl (lk_cons (by rw [← hq]; rfl) (lk_cons rfl (lk_nil _)))) (List.Sublist.refl _) fun k hI => ?_
    refine Tr.seq ?_
    refine Tr.seq ?_
    refine Tr.region ?_
    refine Tr.val (V.move rfl) rfl ?_
    refine Tr.val (V.move rfl) rfl ?_
    refine Tr.val (V.lss rfl rfl rfl) rfl ?_
    refine Tr.lNil ?_
    refine Tr.thenN ?_
    refine Tr.cond rfl (fun hT1 => ?_) (fun hF1 => ?_)
    · simp only [decide_eq_true_eq] at hT1
      refine Tr.skip ?_
      refine Tr.thenN ?_
      refine Tr.seq ?_
      refine Tr.block ?_
      refine Tr.seq ?_
      refine Tr.region ?_
      refine Tr.val (V.move rfl) rfl ?_
      refine Tr.val (V.quo32 (Y := 2147483648#32) rfl rfl (by decide)) rfl ?_
      refine Tr.val (V.assign rfl) rfl ?_
      refine Tr.lNil ?_
      refine Tr.thenN ?_
      refine Tr.region ?_
      refine Tr.val (V.move rfl) rfl ?_
      refine Tr.val (V.mul32 (Y := 2#32) rfl rfl) rfl ?_
      refine Tr.val (V.move rfl) rfl ?_
      refine Tr.val (V.add32 rfl rfl) rfl ?_
      refine Tr.val (V.assign rfl) rfl ?_
      refine Tr.lNil ?_
      refine Tr.inN ?_
      refine Tr.thenN ?_
      refine Tr.region ?_
      refine Tr.val (V.move rfl) rfl ?_
      refine Tr.val (V.add rfl rfl (by omega)) rfl ?_
      refine Tr.val (V.assign rfl) rfl ?_
      refine Tr.lNil ?_
      exact Tr.again (k + 1) (by omega) (by omega) (lk_cons rfl (lk_cons rfl (lk_cons rfl (lk_nil _)))) (List.Sublist.refl _)
    · simp only [decide_eq_false_iff_not] at hF1
      refine Tr.exit ?_
      refine Tr.thenX ?_
      refine Tr.thenX ?_
      refine Tr.inHit ?_
      refine Tr.thenN ?_
      refine Tr.seq ?_
      refine Tr.region ?_
      refine Tr.val (V.move rfl) rfl ?_
      refine Tr.val (V.assign rfl) rfl ?_
      refine Tr.lNil ?_
      refine Tr.thenN ?_
      refine Tr.ret ?_
      refine Tr.out1 rfl (Res.tmp rfl) fun w hw => ?_
      obtain rfl : k = q := by omega
      exact ⟨by rw [rotI_rep X i k hq2], hw⟩
  · simp only [decide_eq_false_iff_not] at hF0
    obtain ⟨q, hq, hq2⟩ : ∃ q : Nat, i.tmod 32 = (q : Int) ∧ i % 32 = (q : Int) := ⟨(i.tmod 32).toNat, by omega, by rw [ht2 (by omega)]; omega⟩
    refine Tr.skip ?_
    refine Tr.thenN ?_
    refine Tr.seq ?_
    refine Tr.seq ?_
    refine Tr.region ?_
    refine Tr.val (V.assign rfl) rfl ?_
    refine Tr.lNil ?_
    refine Tr.thenN ?_
    refine Tr.block ?_
    refine Tr.loop (ι := Nat) (fun k => k ≤ q) (fun k => [(0, U32 (rep rot1 k X)), (1, .int .i64 (q : Int)), (5, .int .i64 (k : Int))]) (fun k => []) (fun k => q - k) 0 (Nat.zero_le _) (lk_cons rfl (lk_cons (by rw [← hq]; rfl) (lk_cons rfl (lk_nil _)))) (List.Sublist.refl _) fun k hI => ?_
    refine Tr.seq ?_
    refine Tr.seq ?_
    refine Tr.region ?_
    refine Tr.val (V.move rfl) rfl ?_
    refine Tr.val (V.move rfl) rfl ?_
    refine Tr.val (V.lss rfl rfl rfl) rfl ?_
    refine Tr.lNil ?_
    refine Tr.thenN ?_
    refine Tr.cond rfl (fun hT2 => ?_) (fun hF2 => ?_)
    · simp only [decide_eq_true_eq] at hT2
      refine Tr.skip ?_
      refine Tr.thenN ?_
      refine Tr.seq ?_
      refine Tr.block ?_
      refine Tr.seq ?_
      refine Tr.region ?_
      refine Tr.val (V.move rfl) rfl ?_
      refine Tr.val (V.quo32 (Y := 2147483648#32) rfl rfl (by decide)) rfl ?_
      refine Tr.val (V.assign rfl) rfl ?_
      refine Tr.lNil ?_
      refine Tr.thenN ?_
      refine Tr.region ?_
      refine Tr.val (V.move rfl) rfl ?_
      refine Tr.val (V.mul32 (Y := 2#32) rfl rfl) rfl ?_
      refine Tr.val (V.move rfl) rfl ?_
      refine Tr.val (V.add32 rfl rfl) rfl ?_
      refine Tr.val (V.assign rfl) rfl ?_
      refine Tr.lNil ?_
      refine Tr.inN ?_
      refine Tr.thenN ?_
      refine Tr.region ?_
      refine Tr.val (V.move rfl) rfl ?_
      refine Tr.val (V.add rfl rfl (by omega)) rfl ?_
      refine Tr.val (V.assign rfl) rfl ?_
      refine Tr.lNil ?_
      exact Tr.again (k + 1) (by omega) (by omega) (lk_cons rfl (lk_cons rfl (lk_cons rfl (lk_nil _)))) (List.Sublist.refl _)
    · simp only [decide_eq_false_iff_not] at hF2
      refine Tr.exit ?_
      refine Tr.thenX ?_
      refine Tr.thenX ?_
      refine Tr.inHit ?_
      refine Tr.thenN ?_
      refine Tr.seq ?_
      refine Tr.region ?_
      refine Tr.val (V.move rfl) rfl ?_
      refine Tr.val (V.assign rfl) rfl ?_
      refine Tr.lNil ?_
      refine Tr.thenN ?_
      refine Tr.ret ?_
      refine Tr.out1 rfl (Res.tmp rfl) fun w hw => ?_
      obtain rfl : k = q := by omega
      exact ⟨by rw [rotI_rep X i k hq2], hw⟩

theorem rcrc_any (p : Option Addr) (m c : Nat) (xs : List (BitVec 8)) (w : World) (hr : RdB w p (xs.map U8)) (hl : xs.length = m) (hm : m ≤ 9223372036854775806) :
    Calls Try.prog 24 [.slice p m c].toArray w fun r w' => r = .returned (U32 (~~~ crcL xs)) ∧ Hp w [] [] w' := by
  have hrd : RdP w [] [] p (xs.map U8) := RdP.old hr (fun _ _ => by simp)
  refine Tr.enter Try.func24 rfl Try.ntmps24 rfl (Hp.refl w) ?_
  refine Tr.seq ?_
  refine Tr.region ?_
  refine Tr.val (V.assign (v := U32 0#32) rfl) rfl ?_
  refine Tr.lNil ?_
  refine Tr.thenN ?_
  refine Tr.seq ?_
  refine Tr.region ?_
  refine Tr.val (V.assign (v := U32 4294967295#32) rfl) rfl ?_
  refine Tr.lNil ?_
  refine Tr.thenN ?_
  refine Tr.seq ?_
  refine Tr.seq ?_
  refine Tr.region ?_
  refine Tr.val (V.assign rfl) rfl ?_
  refine Tr.lNil ?_
  refine Tr.thenN ?_
  refine Tr.block ?_
  refine Tr.loop (ι := Nat) (fun k => k ≤ m) (fun k => [(0, .slice p m c), (3, U32 (crcL (xs.take k))), (4, .int .i64 (k : Int))]) (fun k => []) (fun k => m - k) 0 (Nat.zero_le _) (lk_cons rfl (lk_cons rfl (lk_cons rfl (lk_nil _)))) (List.Sublist.refl _) fun k hI => ?_
  refine Tr.seq ?_
  refine Tr.seq ?_
  refine Tr.region ?_
  refine Tr.val (V.move rfl) rfl ?_
  refine Tr.val (V.move rfl) rfl ?_
  refine Tr.val (V.len Try.runUnderlying22 rfl) rfl ?_
  refine Tr.val (V.lss rfl rfl rfl) rfl ?_
  refine Tr.lNil ?_
  refine Tr.thenN ?_
  refine Tr.cond rfl (fun hT0 => ?_) (fun hF0 => ?_)
  · simp only [decide_eq_true_eq] at hT0
    have hlt : k < m := by omega
    obtain ⟨b, hb⟩ : ∃ b, xs[k]? = some b := ⟨_, List.getElem?_eq_getElem (by omega)⟩
    have hp : p.isSome = true := hrd.isSome (Hp.refl w) (by simp; omega)
    refine Tr.skip ?_
    refine Tr.thenN ?_
    refine Tr.seq ?_
    refine Tr.block ?_
    refine Tr.seq ?_
    refine Tr.region ?_
    refine Tr.val (V.assign rfl) rfl ?_
    refine Tr.lNil ?_
    refine Tr.thenN ?_
    refine Tr.block ?_
    refine Tr.loop (ι := Nat) (fun i => i ≤ 8) (fun i => [(0, .slice p m c), (3, U32 (refBits b (crcL (xs.take k)) i)), (4, .int .i64 (k : Int)), (5, .int .i64 (i : Int))]) (fun i => []) (fun i => 8 - i) 0 (Nat.zero_le _) (lk_cons rfl (lk_cons rfl (lk_cons rfl (lk_cons rfl (lk_nil _))))) (List.Sublist.refl _) fun i hI => ?_
    refine Tr.seq ?_
    refine Tr.seq ?_
    refine Tr.region ?_
    refine Tr.val (V.move rfl) rfl ?_
    refine Tr.val (V.lss rfl rfl rfl) rfl ?_
    refine Tr.lNil ?_
    refine Tr.thenN ?_
    refine Tr.cond rfl (fun hT1 => ?_) (fun hF1 => ?_)
    · simp only [decide_eq_true_eq] at hT1
      refine Tr.skip ?_
      refine Tr.thenN ?_
      refine Tr.seq ?_
      refine Tr.block ?_
      refine Tr.seq ?_
      refine Tr.region ?_
      refine Tr.val (V.move rfl) rfl ?_
      refine Tr.val (V.move rfl) rfl ?_
      refine Tr.val (V.idxS (j := k) Try.runUnderlying22 Try.sizeOf5 rfl rfl (by omega) (by omega) hp) rfl ?_
      refine Tr.val (V.load1 Try.isAgg5 rfl (V.cellR hrd (by rw [List.getElem?_map, hb]; rfl))) rfl ?_
      refine Tr.val (V.move rfl) rfl ?_
      refine Tr.val (V.convN_64 Try.runUnderlying3 Try.runUnderlying32 rfl (by omega) (by omega)) rfl ?_
      refine Tr.val (V.shr8 rfl rfl) rfl ?_
      refine Tr.val (V.conv8_32 Try.runUnderlying5 Try.runUnderlying29 rfl) rfl ?_
      refine Tr.val (V.and32 (Y := 1#32) rfl rfl) rfl ?_
      refine Tr.val (V.assign rfl) rfl ?_
      refine Tr.lNil ?_
      refine Tr.thenN ?_
      refine Tr.seq ?_
      refine Tr.region ?_
      refine Tr.val (V.move rfl) rfl ?_
      refine Tr.val (V.and32 (Y := 1#32) rfl rfl) rfl ?_
      refine Tr.val (V.assign rfl) rfl ?_
      refine Tr.lNil ?_
      refine Tr.thenN ?_
      refine Tr.seq ?_
      refine Tr.region ?_
      refine Tr.val (V.move rfl) rfl ?_
      refine Tr.val (V.quo32 (Y := 2#32) rfl rfl (by decide)) rfl ?_
      refine Tr.val (V.assign rfl) rfl ?_
      refine Tr.lNil ?_
      refine Tr.thenN ?_
      refine Tr.seq ?_
      refine Tr.region ?_
      refine Tr.val (V.move rfl) rfl ?_
      refine Tr.val (V.move rfl) rfl ?_
      refine Tr.val (V.neq32 rfl rfl rfl) rfl ?_
      refine Tr.lNil ?_
      refine Tr.thenN ?_
      refine Tr.cond rfl (fun hT2 => ?_) (fun hF2 => ?_)
      · simp only [decide_eq_true_eq] at hT2
        have hstep : refBits b (crcL (xs.take k)) (i + 1) = refBits b (crcL (xs.take k)) i / 2#32 ^^^ 3988292384#32 := by
          rw [refBits, refBit, if_neg]
          exact hT2
        refine Tr.region ?_
        refine Tr.val (V.move rfl) rfl ?_
        refine Tr.val (V.xor32 (Y := 3988292384#32) rfl rfl) rfl ?_
        refine Tr.val (V.assign rfl) rfl ?_
        refine Tr.lNil ?_
        refine Tr.inN ?_
        refine Tr.thenN ?_
        refine Tr.region ?_
        refine Tr.val (V.move rfl) rfl ?_
        refine Tr.val (V.add rfl rfl (by omega)) rfl ?_
        refine Tr.val (V.assign rfl) rfl ?_
        refine Tr.lNil ?_
        exact Tr.again (i + 1) (by omega) (by omega) (lk_cons rfl (lk_cons (by rw [hstep]; rfl) (lk_cons rfl (lk_cons rfl (lk_nil _))))) (List.Sublist.refl _)
      · simp only [decide_eq_false_iff_not, Classical.not_not] at hF2
        have hstep : refBits b (crcL (xs.take k)) (i + 1) = refBits b (crcL (xs.take k)) i / 2#32 := by
          rw [refBits, refBit, if_pos hF2]
        refine Tr.skip ?_
        refine Tr.inN ?_
        refine Tr.thenN ?_
        refine Tr.region ?_
        refine Tr.val (V.move rfl) rfl ?_
        refine Tr.val (V.add rfl rfl (by omega)) rfl ?_
        refine Tr.val (V.assign rfl) rfl ?_
        refine Tr.lNil ?_
        exact Tr.again (i + 1) (by omega) (by omega) (lk_cons rfl (lk_cons (by rw [hstep]; rfl) (lk_cons rfl (lk_cons rfl (lk_nil _))))) (List.Sublist.refl _)
    · simp only [decide_eq_false_iff_not] at hF1
      obtain rfl : i = 8 := by omega
      refine Tr.exit ?_
      refine Tr.thenX ?_
      refine Tr.thenX ?_
      refine Tr.inHit ?_
      refine Tr.inN ?_
      refine Tr.thenN ?_
      refine Tr.region ?_
      refine Tr.val (V.move rfl) rfl ?_
      refine Tr.val (V.add rfl rfl (by omega)) rfl ?_
      refine Tr.val (V.assign rfl) rfl ?_
      refine Tr.lNil ?_
      exact Tr.again (k + 1) (by omega) (by omega) (lk_cons rfl (lk_cons (by rw [crcL_take hb, ← refBits_eight]; rfl) (lk_cons rfl (lk_nil _)))) (List.Sublist.refl _)
  · simp only [decide_eq_false_iff_not] at hF0
    refine Tr.exit ?_
    refine Tr.thenX ?_
    refine Tr.thenX ?_
    refine Tr.inHit ?_
    refine Tr.thenN ?_
    refine Tr.seq ?_
    refine Tr.region ?_
    refine Tr.val (V.move rfl) rfl ?_
    refine Tr.val (V.sub32 (X := 4294967295#32) rfl rfl) rfl ?_
    refine Tr.val (V.assign rfl) rfl ?_
    refine Tr.lNil ?_
    refine Tr.thenN ?_
    refine Tr.ret ?_
    refine Tr.out1 rfl (Res.tmp rfl) fun w hw => ?_
    obtain rfl : k = m := by omega
    exact ⟨by rw [List.take_of_length_le (by omega), not_sub], hw⟩

theorem rxor_any (p q : Option Addr) (m c m2 c2 : Nat) (xs ys : List (BitVec 8)) (w : World) (hr : RdB w p (xs.map U8)) (hr2 : RdB w q (ys.map U8)) (hl : xs.length = m) (hl2 : ys.length = m2) (hm : m ≤ 140737488355000) (hm2 : m2 ≤ 140737488355000) :
    Calls Try.prog 28 [.slice p m c, .slice q m2 c2].toArray w fun r w' => ∃ x : Nat × Nat × List Value, r = .returned (.slice (some ⟨x.1, 0, none⟩) (xorL xs ys).length x.2.1) ∧ Hp w [] [⟨x.1, 5, (xorL xs ys).map U8 ++ x.2.2⟩] w' ∧ ((xorL xs ys).map U8 ++ x.2.2).length = x.2.1 := by
  obtain ⟨zs, hzs⟩ : ∃ zs, zs = xorL xs ys := ⟨_, rfl⟩
  have hzl : zs.length = min m m2 := by rw [hzs, xorL_len, hl, hl2]
  rw [← hzs]
  refine Tr.enter Try.func28 rfl Try.ntmps28 rfl (Hp.refl w) ?_
  refine Tr.seq ?_
  refine Tr.region ?_
  refine Tr.val (V.assign rfl) rfl ?_
  refine Tr.lNil ?_
  refine Tr.thenN ?_
  refine Tr.seq ?_
  refine Tr.region ?_
  refine Tr.op (W.build elem22 W.parts0 rfl (by simp) (by omega) rfl fun g0 => ?_)
  refine Tr.val (V.assign rfl) rfl ?_
  refine Tr.lNil ?_
  refine Tr.thenN ?_
  refine Tr.seq ?_
  refine Tr.seq ?_
  refine Tr.region ?_
  refine Tr.val (V.assign rfl) rfl ?_
  refine Tr.lNil ?_
  refine Tr.thenN ?_
  refine Tr.block ?_
  refine Tr.loop (ι := Nat × Nat × Nat × List Value) (fun x => x.1 ≤ zs.length ∧ ((zs.take x.1).map U8 ++ x.2.2.2).length = x.2.2.1) (fun x => [(0, .slice p m c), (1, .slice q m2 c2), (5, .slice (some ⟨x.2.1, 0, none⟩) x.1 x.2.2.1), (6, .int .i64 (x.1 : Int))]) (fun x => [⟨x.2.1, 5, (zs.take x.1).map U8 ++ x.2.2.2⟩]) (fun x => zs.length - x.1) (0, g0, 0, []) ⟨Nat.zero_le _, rfl⟩ (lk_cons rfl (lk_cons rfl (lk_cons rfl (lk_cons rfl (lk_nil _))))) (List.Sublist.refl _) fun x hI => ?_
  obtain ⟨k, g, cap, junk⟩ := x
  obtain ⟨hkz, hc⟩ := hI
  simp only at hkz hc
  have h3 : (k < zs.length) ∨ (¬ k < zs.length ∧ k < m) ∨ (¬ k < zs.length ∧ ¬ k < m) := by omega
  rcases h3 with hlt | ⟨hge, hkm⟩ | ⟨hge, hkm⟩
  · obtain ⟨a, ha⟩ : ∃ b, xs[k]? = some b := ⟨_, List.getElem?_eq_getElem (by omega)⟩
    obtain ⟨b, hb⟩ : ∃ b, ys[k]? = some b := ⟨_, List.getElem?_eq_getElem (by omega)⟩
    have hz : zs[k]? = some (a ^^^ b) := by rw [hzs]; exact xorL_get ha hb
    have htk : (zs.take (k + 1)).map U8 = (zs.take k).map U8 ++ [U8 ((a ||| b) - (a &&& b))] := by
      obtain ⟨h1, h2⟩ := List.getElem?_eq_some_iff.1 hz
      rw [or_sub_and, List.take_succ_eq_append_getElem h1, h2]; simp
    have hrd : ∀ L, RdP w [] L p (xs.map U8) := fun L => RdP.old hr (fun _ _ => by simp)
    have hrd2 : ∀ L, RdP w [] L q (ys.map U8) := fun L => RdP.old hr2 (fun _ _ => by simp)
    have hp : p.isSome = true := (hr k _ (by rw [List.getElem?_map, ha]; rfl)).1
    have hp2 : q.isSome = true := (hr2 k _ (by rw [List.getElem?_map, hb]; rfl)).1
    refine Tr.seq ?_
    refine Tr.seq ?_
    refine Tr.region ?_
    refine Tr.val (V.move rfl) rfl ?_
    refine Tr.val (V.move rfl) rfl ?_
    refine Tr.val (V.len Try.runUnderlying22 rfl) rfl ?_
    refine Tr.val (V.lss (b := true) rfl rfl (decide_eq_true (by omega))) rfl ?_
    refine Tr.val (V.move rfl) rfl ?_
    refine Tr.valG rfl (V.move rfl) rfl ?_
    refine Tr.valG rfl (V.move rfl) rfl ?_
    refine Tr.valG rfl (V.len Try.runUnderlying22 rfl) rfl ?_
    refine Tr.valG rfl (V.lss (b := true) rfl rfl (decide_eq_true (by omega))) rfl ?_
    refine Tr.val (V.pick rfl rfl) rfl ?_
    refine Tr.lNil ?_
    refine Tr.thenN ?_
    refine Tr.condT rfl ?_
    refine Tr.skip ?_
    refine Tr.thenN ?_
    refine Tr.seq ?_
    refine Tr.block ?_
    refine Tr.regionD [0, 0, 0, 6, 14, 0, 0, 96, 224, 510, 0, 0, 3072, 7168, 0, 0, 49152, 114688, 261120, 524286, 1048574, 2097151, 4194303] [21] (.pure 0 (.pure 1 (.pure 2 (.pure 3 (.soft 4 (.pure 5 (.pure 6 (.pure 7 (.soft 8 (.pure 9 (.pure 10 (.pure 11 (.pure 12 (.soft 13 (.pure 14 (.pure 15 (.pure 16 (.soft 17 (.pure 18 (.pure 19 (.hard 20 (.hard 21 (.pure 22 .done))))))))))))))))))))))) mixed (by kernel_rfl) ?_
    refine TrP.pure rfl (fun _ => V.move rfl) rfl ?_
    refine TrP.pure rfl (fun _ => V.move rfl) rfl ?_
    refine TrP.pure rfl (fun _ => V.move rfl) rfl ?_
    refine TrP.pure rfl (fun _ => V.idxS (j := k) Try.runUnderlying22 Try.sizeOf5 rfl rfl (by omega) (by omega) hp) rfl ?_
    refine TrP.soft rfl (V.load1 Try.isAgg5 rfl (V.cellR (hrd _) (by rw [List.getElem?_map, ha]; rfl))) rfl ?_
    refine TrP.pure rfl (fun _ => V.move rfl) rfl ?_
    refine TrP.pure rfl (fun _ => V.move rfl) rfl ?_
    refine TrP.pure rfl (fun _ => V.idxS (j := k) Try.runUnderlying22 Try.sizeOf5 rfl rfl (by omega) (by omega) hp2) rfl ?_
    refine TrP.soft rfl (V.load1 Try.isAgg5 rfl (V.cellR (hrd2 _) (by rw [List.getElem?_map, hb]; rfl))) rfl ?_
    refine TrP.pure rfl (fun _ => V.or8 rfl rfl) rfl ?_
    refine TrP.pure rfl (fun _ => V.move rfl) rfl ?_
    refine TrP.pure rfl (fun _ => V.move rfl) rfl ?_
    refine TrP.pure rfl (fun _ => V.idxS (j := k) Try.runUnderlying22 Try.sizeOf5 rfl rfl (by omega) (by omega) hp) rfl ?_
    refine TrP.soft rfl (V.load1 Try.isAgg5 rfl (V.cellR (hrd _) (by rw [List.getElem?_map, ha]; rfl))) rfl ?_
    refine TrP.pure rfl (fun _ => V.move rfl) rfl ?_
    refine TrP.pure rfl (fun _ => V.move rfl) rfl ?_
    refine TrP.pure rfl (fun _ => V.idxS (j := k) Try.runUnderlying22 Try.sizeOf5 rfl rfl (by omega) (by omega) hp2) rfl ?_
    refine TrP.soft rfl (V.load1 Try.isAgg5 rfl (V.cellR (hrd2 _) (by rw [List.getElem?_map, hb]; rfl))) rfl ?_
    refine TrP.pure rfl (fun _ => V.and8 rfl rfl) rfl ?_
    refine TrP.pure rfl (fun _ => V.sub8 rfl rfl) rfl ?_
    refine TrP.hard rfl (W.build (vs := [U8 ((a ||| b) - (a &&& b))]) elem22 (W.parts1 rfl) rfl (by simp [Value.cells]) (by omega) rfl fun g1 => ?_)
    refine Tr.pOn (by first | exact List.Sublist.refl _ | exact List.sublist_cons_self _ _ | exact List.sublist_append_right _ _ | simp) ?_
    refine TrP.hard rfl (W.append (xs := (zs.take k).map U8) (junk := junk) elem22 rfl rfl (RdP.blk (cs := [U8 ((a ||| b) - (a &&& b))]) (List.Mem.head _) 0 1) rfl (by simp [Value.oneCell']) (fun y => .tail .head) (by simp; omega) hc (by omega) (by omega) rfl fun g2 cap2 junk2 hc2 => ?_)
    refine Tr.pTail rfl ?_
    refine TrP.pure rfl (fun _ => V.assign rfl) rfl ?_
    refine TrP.done ?_
    refine Tr.inN ?_
    refine Tr.thenN ?_
    refine Tr.region ?_
    refine Tr.val (V.move rfl) rfl ?_
    refine Tr.val (V.add rfl rfl (by omega)) rfl ?_
    refine Tr.val (V.assign rfl) rfl ?_
    refine Tr.lNil ?_
    exact Tr.again (k + 1, g2, cap2, junk2) ⟨by omega, by rw [htk]; exact hc2⟩ (by simp only; omega) (lk_cons rfl (lk_cons rfl (lk_cons rfl (lk_cons rfl (lk_nil _))))) (by rw [htk]; exact List.sublist_cons_self _ _)
  · refine Tr.seq ?_
    refine Tr.seq ?_
    refine Tr.region ?_
    refine Tr.val (V.move rfl) rfl ?_
    refine Tr.val (V.move rfl) rfl ?_
    refine Tr.val (V.len Try.runUnderlying22 rfl) rfl ?_
    refine Tr.val (V.lss (b := true) rfl rfl (decide_eq_true (by omega))) rfl ?_
    refine Tr.val (V.move rfl) rfl ?_
    refine Tr.valG rfl (V.move rfl) rfl ?_
    refine Tr.valG rfl (V.move rfl) rfl ?_
    refine Tr.valG rfl (V.len Try.runUnderlying22 rfl) rfl ?_
    refine Tr.valG rfl (V.lss (b := false) rfl rfl (decide_eq_false (by omega))) rfl ?_
    refine Tr.val (V.pick rfl rfl) rfl ?_
    refine Tr.lNil ?_
    refine Tr.thenN ?_
    refine Tr.condF rfl ?_
    refine Tr.exit ?_
    refine Tr.thenX ?_
    refine Tr.thenX ?_
    refine Tr.inHit ?_
    refine Tr.thenN ?_
    refine Tr.seq ?_
    refine Tr.region ?_
    refine Tr.val (V.move rfl) rfl ?_
    refine Tr.val (V.assign rfl) rfl ?_
    refine Tr.lNil ?_
    refine Tr.thenN ?_
    refine Tr.ret ?_
    refine Tr.out1 rfl (Res.tmp rfl) fun w hw => ?_
    obtain rfl : k = zs.length := by omega
    rw [List.take_length] at hw hc
    exact ⟨⟨g, cap, junk⟩, rfl, hw, hc⟩
  · refine Tr.seq ?_
    refine Tr.seq ?_
    refine Tr.region ?_
    refine Tr.val (V.move rfl) rfl ?_
    refine Tr.val (V.move rfl) rfl ?_
    refine Tr.val (V.len Try.runUnderlying22 rfl) rfl ?_
    refine Tr.val (V.lss (b := false) rfl rfl (decide_eq_false (by omega))) rfl ?_
    refine Tr.val (V.move rfl) rfl ?_
    refine Tr.skipG rfl rfl rfl ?_
    refine Tr.skipG rfl rfl rfl ?_
    refine Tr.skipG rfl rfl rfl ?_
    refine Tr.skipG rfl rfl rfl ?_
    refine Tr.val (V.pick rfl rfl) rfl ?_
    refine Tr.lNil ?_
    refine Tr.thenN ?_
    refine Tr.condF rfl ?_
    refine Tr.exit ?_
    refine Tr.thenX ?_
    refine Tr.thenX ?_
    refine Tr.inHit ?_
    refine Tr.thenN ?_
    refine Tr.seq ?_
    refine Tr.region ?_
    refine Tr.val (V.move rfl) rfl ?_
    refine Tr.val (V.assign rfl) rfl ?_
    refine Tr.lNil ?_
    refine Tr.thenN ?_
    refine Tr.ret ?_
    refine Tr.out1 rfl (Res.tmp rfl) fun w hw => ?_
    obtain rfl : k = zs.length := by omega
    rw [List.take_length] at hw hc
    exact ⟨⟨g, cap, junk⟩, rfl, hw, hc⟩

theorem get_no0 (p : Option Addr) (m c : Nat) (at0 size : Int) (big : Bool) (w : World) (hm : m ≤ 9223372036854775807) (ha0 : -9223372036854775808 ≤ at0) (ha1 : at0 ≤ 9223372036854775807) (h : size < 1) :
    Calls Try.prog 20 [.slice p m c, .int .i64 at0, .int .i64 size, .bool big].toArray w fun r w' => r = .returned (.tuple #[U64 0#64, .bool false]) ∧ Hp w [] [] w' := by
  refine Tr.enter Try.func20 rfl Try.ntmps20 rfl (Hp.refl w) ?_
  refine Tr.seq ?_
  refine Tr.region ?_
  refine Tr.val (V.assign (v := U64 0#64) rfl) rfl ?_
  refine Tr.val (V.assign rfl) rfl ?_
  refine Tr.lNil ?_
  refine Tr.thenN ?_
  refine Tr.seq ?_
  refine Tr.seq ?_
  refine Tr.region ?_
  refine Tr.val (V.move rfl) rfl ?_
  refine Tr.val (V.lss (b := true) rfl rfl (decide_eq_true (by omega))) rfl ?_
  refine Tr.val (V.move rfl) rfl ?_
  refine Tr.skipG rfl rfl rfl ?_
  refine Tr.skipG rfl rfl rfl ?_
  refine Tr.val (V.pick rfl rfl) rfl ?_
  refine Tr.val (V.move rfl) rfl ?_
  refine Tr.skipG rfl rfl rfl ?_
  refine Tr.skipG rfl rfl rfl ?_
  refine Tr.val (V.pick rfl rfl) rfl ?_
  refine Tr.val (V.move rfl) rfl ?_
  refine Tr.skipG rfl rfl rfl ?_
  refine Tr.skipG rfl rfl rfl ?_
  refine Tr.skipG rfl rfl rfl ?_
  refine Tr.skipG rfl rfl rfl ?_
  refine Tr.skipG rfl rfl rfl ?_
  refine Tr.skipG rfl rfl rfl ?_
  refine Tr.val (V.pick rfl rfl) rfl ?_
  refine Tr.lNil ?_
  refine Tr.thenN ?_
  refine Tr.condT rfl ?_
  refine Tr.seq ?_
  refine Tr.region ?_
  refine Tr.val (V.assign (v := U64 0#64) rfl) rfl ?_
  refine Tr.val (V.assign rfl) rfl ?_
  refine Tr.lNil ?_
  refine Tr.thenN ?_
  refine Tr.ret ?_
  refine Tr.thenR ?_
  refine Tr.out2 rfl (Res.tmp rfl) (Res.tmp rfl) fun w hw => ?_
  exact ⟨rfl, hw⟩

theorem get_no1 (p : Option Addr) (m c : Nat) (at0 size : Int) (big : Bool) (w : World) (hm : m ≤ 9223372036854775807) (ha0 : -9223372036854775808 ≤ at0) (ha1 : at0 ≤ 9223372036854775807) (h1 : ¬ size < 1) (h : 8 < size) :
    Calls Try.prog 20 [.slice p m c, .int .i64 at0, .int .i64 size, .bool big].toArray w fun r w' => r = .returned (.tuple #[U64 0#64, .bool false]) ∧ Hp w [] [] w' := by
  refine Tr.enter Try.func20 rfl Try.ntmps20 rfl (Hp.refl w) ?_
  refine Tr.seq ?_
  refine Tr.region ?_
  refine Tr.val (V.assign (v := U64 0#64) rfl) rfl ?_
  refine Tr.val (V.assign rfl) rfl ?_
  refine Tr.lNil ?_
  refine Tr.thenN ?_
  refine Tr.seq ?_
  refine Tr.seq ?_
  refine Tr.region ?_
  refine Tr.val (V.move rfl) rfl ?_
  refine Tr.val (V.lss (b := false) rfl rfl (decide_eq_false (by omega))) rfl ?_
  refine Tr.val (V.move rfl) rfl ?_
  refine Tr.valG rfl (V.move rfl) rfl ?_
  refine Tr.valG rfl (V.gtr (b := true) rfl rfl (decide_eq_true (by omega))) rfl ?_
  refine Tr.val (V.pick rfl rfl) rfl ?_
  refine Tr.val (V.move rfl) rfl ?_
  refine Tr.skipG rfl rfl rfl ?_
  refine Tr.skipG rfl rfl rfl ?_
  refine Tr.val (V.pick rfl rfl) rfl ?_
  refine Tr.val (V.move rfl) rfl ?_
  refine Tr.skipG rfl rfl rfl ?_
  refine Tr.skipG rfl rfl rfl ?_
  refine Tr.skipG rfl rfl rfl ?_
  refine Tr.skipG rfl rfl rfl ?_
  refine Tr.skipG rfl rfl rfl ?_
  refine Tr.skipG rfl rfl rfl ?_
  refine Tr.val (V.pick rfl rfl) rfl ?_
  refine Tr.lNil ?_
  refine Tr.thenN ?_
  refine Tr.condT rfl ?_
  refine Tr.seq ?_
  refine Tr.region ?_
  refine Tr.val (V.assign (v := U64 0#64) rfl) rfl ?_
  refine Tr.val (V.assign rfl) rfl ?_
  refine Tr.lNil ?_
  refine Tr.thenN ?_
  refine Tr.ret ?_
  refine Tr.thenR ?_
  refine Tr.out2 rfl (Res.tmp rfl) (Res.tmp rfl) fun w hw => ?_
  exact ⟨rfl, hw⟩

theorem get_no2 (p : Option Addr) (m c : Nat) (at0 size : Int) (big : Bool) (w : World) (hm : m ≤ 9223372036854775807) (ha0 : -9223372036854775808 ≤ at0) (ha1 : at0 ≤ 9223372036854775807) (h1 : ¬ size < 1) (h2 : ¬ 8 < size) (h : at0 < 0) :
    Calls Try.prog 20 [.slice p m c, .int .i64 at0, .int .i64 size, .bool big].toArray w fun r w' => r = .returned (.tuple #[U64 0#64, .bool false]) ∧ Hp w [] [] w' := by
  refine Tr.enter Try.func20 rfl Try.ntmps20 rfl (Hp.refl w) ?_
  refine Tr.seq ?_
  refine Tr.region ?_
  refine Tr.val (V.assign (v := U64 0#64) rfl) rfl ?_
  refine Tr.val (V.assign rfl) rfl ?_
  refine Tr.lNil ?_
  refine Tr.thenN ?_
  refine Tr.seq ?_
  refine Tr.seq ?_
  refine Tr.region ?_
  refine Tr.val (V.move rfl) rfl ?_
  refine Tr.val (V.lss (b := false) rfl rfl (decide_eq_false (by omega))) rfl ?_
  refine Tr.val (V.move rfl) rfl ?_
  refine Tr.valG rfl (V.move rfl) rfl ?_
  refine Tr.valG rfl (V.gtr (b := false) rfl rfl (decide_eq_false (by omega))) rfl ?_
  refine Tr.val (V.pick rfl rfl) rfl ?_
  refine Tr.val (V.move rfl) rfl ?_
  refine Tr.valG rfl (V.move rfl) rfl ?_
  refine Tr.valG rfl (V.lss (b := true) rfl rfl (decide_eq_true (by omega))) rfl ?_
  refine Tr.val (V.pick rfl rfl) rfl ?_
  refine Tr.val (V.move rfl) rfl ?_
  refine Tr.skipG rfl rfl rfl ?_
  refine Tr.skipG rfl rfl rfl ?_
  refine Tr.skipG rfl rfl rfl ?_
  refine Tr.skipG rfl rfl rfl ?_
  refine Tr.skipG rfl rfl rfl ?_
  refine Tr.skipG rfl rfl rfl ?_
  refine Tr.val (V.pick rfl rfl) rfl ?_
  refine Tr.lNil ?_
  refine Tr.thenN ?_
  refine Tr.condT rfl ?_
  refine Tr.seq ?_
  refine Tr.region ?_
  refine Tr.val (V.assign (v := U64 0#64) rfl) rfl ?_
  refine Tr.val (V.assign rfl) rfl ?_
  refine Tr.lNil ?_
  refine Tr.thenN ?_
  refine Tr.ret ?_
  refine Tr.thenR ?_
  refine Tr.out2 rfl (Res.tmp rfl) (Res.tmp rfl) fun w hw => ?_
  exact ⟨rfl, hw⟩

theorem get_no3 (p : Option Addr) (m c : Nat) (at0 size : Int) (big : Bool) (w : World) (hm : m ≤ 9223372036854775807) (ha0 : -9223372036854775808 ≤ at0) (ha1 : at0 ≤ 9223372036854775807) (h1 : ¬ size < 1) (h2 : ¬ 8 < size) (h3 : ¬ at0 < 0) (h : (m : Int) - size < at0) :
    Calls Try.prog 20 [.slice p m c, .int .i64 at0, .int .i64 size, .bool big].toArray w fun r w' => r = .returned (.tuple #[U64 0#64, .bool false]) ∧ Hp w [] [] w' := by
  refine Tr.enter Try.func20 rfl Try.ntmps20 rfl (Hp.refl w) ?_
  refine Tr.seq ?_
  refine Tr.region ?_
  refine Tr.val (V.assign (v := U64 0#64) rfl) rfl ?_
  refine Tr.val (V.assign rfl) rfl ?_
  refine Tr.lNil ?_
  refine Tr.thenN ?_
  refine Tr.seq ?_
  refine Tr.seq ?_
  refine Tr.region ?_
  refine Tr.val (V.move rfl) rfl ?_
  refine Tr.val (V.lss (b := false) rfl rfl (decide_eq_false (by omega))) rfl ?_
  refine Tr.val (V.move rfl) rfl ?_
  refine Tr.valG rfl (V.move rfl) rfl ?_
  refine Tr.valG rfl (V.gtr (b := false) rfl rfl (decide_eq_false (by omega))) rfl ?_
  refine Tr.val (V.pick rfl rfl) rfl ?_
  refine Tr.val (V.move rfl) rfl ?_
  refine Tr.valG rfl (V.move rfl) rfl ?_
  refine Tr.valG rfl (V.lss (b := false) rfl rfl (decide_eq_false (by omega))) rfl ?_
  refine Tr.val (V.pick rfl rfl) rfl ?_
  refine Tr.val (V.move rfl) rfl ?_
  refine Tr.valG rfl (V.move rfl) rfl ?_
  refine Tr.valG rfl (V.move rfl) rfl ?_
  refine Tr.valG rfl (V.len Try.runUnderlying22 rfl) rfl ?_
  refine Tr.valG rfl (V.move rfl) rfl ?_
  refine Tr.valG rfl (V.sub rfl rfl (by omega)) rfl ?_
  refine Tr.valG rfl (V.gtr (b := true) rfl rfl (decide_eq_true (by omega))) rfl ?_
  refine Tr.val (V.pick rfl rfl) rfl ?_
  refine Tr.lNil ?_
  refine Tr.thenN ?_
  refine Tr.condT rfl ?_
  refine Tr.seq ?_
  refine Tr.region ?_
  refine Tr.val (V.assign (v := U64 0#64) rfl) rfl ?_
  refine Tr.val (V.assign rfl) rfl ?_
  refine Tr.lNil ?_
  refine Tr.thenN ?_
  refine Tr.ret ?_
  refine Tr.thenR ?_
  refine Tr.out2 rfl (Res.tmp rfl) (Res.tmp rfl) fun w hw => ?_
  exact ⟨rfl, hw⟩

theorem rget_no0 (p : Option Addr) (m c : Nat) (at0 size : Int) (big : Bool) (w : World) (hm : m ≤ 9223372036854775807) (ha0 : -9223372036854775808 ≤ at0) (ha1 : at0 ≤ 9223372036854775807) (h : size < 1) :
    Calls Try.prog 21 [.slice p m c, .int .i64 at0, .int .i64 size, .bool big].toArray w fun r w' => r = .returned (.tuple #[U64 0#64, .bool false]) ∧ Hp w [] [] w' := by
  refine Tr.enter Try.func21 rfl Try.ntmps21 rfl (Hp.refl w) ?_
  refine Tr.seq ?_
  refine Tr.region ?_
  refine Tr.val (V.assign (v := U64 0#64) rfl) rfl ?_
  refine Tr.val (V.assign rfl) rfl ?_
  refine Tr.lNil ?_
  refine Tr.thenN ?_
  refine Tr.seq ?_
  refine Tr.seq ?_
  refine Tr.region ?_
  refine Tr.val (V.move rfl) rfl ?_
  refine Tr.val (V.lss (b := true) rfl rfl (decide_eq_true (by omega))) rfl ?_
  refine Tr.val (V.move rfl) rfl ?_
  refine Tr.skipG rfl rfl rfl ?_
  refine Tr.skipG rfl rfl rfl ?_
  refine Tr.val (V.pick rfl rfl) rfl ?_
  refine Tr.val (V.move rfl) rfl ?_
  refine Tr.skipG rfl rfl rfl ?_
  refine Tr.skipG rfl rfl rfl ?_
  refine Tr.val (V.pick rfl rfl) rfl ?_
  refine Tr.val (V.move rfl) rfl ?_
  refine Tr.skipG rfl rfl rfl ?_
  refine Tr.skipG rfl rfl rfl ?_
  refine Tr.skipG rfl rfl rfl ?_
  refine Tr.skipG rfl rfl rfl ?_
  refine Tr.val (V.pick rfl rfl) rfl ?_
  refine Tr.val (V.move rfl) rfl ?_
  refine Tr.skipG rfl rfl rfl ?_
  refine Tr.skipG rfl rfl rfl ?_
  refine Tr.skipG rfl rfl rfl ?_
  refine Tr.skipG rfl rfl rfl ?_
  refine Tr.skipG rfl rfl rfl ?_
  refine Tr.skipG rfl rfl rfl ?_
  refine Tr.val (V.pick rfl rfl) rfl ?_
  refine Tr.lNil ?_
  refine Tr.thenN ?_
  refine Tr.condT rfl ?_
  refine Tr.seq ?_
  refine Tr.region ?_
  refine Tr.val (V.assign (v := U64 0#64) rfl) rfl ?_
  refine Tr.val (V.assign rfl) rfl ?_
  refine Tr.lNil ?_
  refine Tr.thenN ?_
  refine Tr.ret ?_
  refine Tr.thenR ?_
  refine Tr.out2 rfl (Res.tmp rfl) (Res.tmp rfl) fun w hw => ?_
  exact ⟨rfl, hw⟩

theorem rget_no1 (p : Option Addr) (m c : Nat) (at0 size : Int) (big : Bool) (w : World) (hm : m ≤ 9223372036854775807) (ha0 : -9223372036854775808 ≤ at0) (ha1 : at0 ≤ 9223372036854775807) (h1 : ¬ size < 1) (h : 8 < size) :
    Calls Try.prog 21 [.slice p m c, .int .i64 at0, .int .i64 size, .bool big].toArray w fun r w' => r = .returned (.tuple #[U64 0#64, .bool false]) ∧ Hp w [] [] w' := by
  refine Tr.enter Try.func21 rfl Try.ntmps21 rfl (Hp.refl w) ?_
  refine Tr.seq ?_
  refine Tr.region ?_
  refine Tr.val (V.assign (v := U64 0#64) rfl) rfl ?_
  refine Tr.val (V.assign rfl) rfl ?_
  refine Tr.lNil ?_
  refine Tr.thenN ?_
  refine Tr.seq ?_
  refine Tr.seq ?_
  refine Tr.region ?_
  refine Tr.val (V.move rfl) rfl ?_
  refine Tr.val (V.lss (b := false) rfl rfl (decide_eq_false (by omega))) rfl ?_
  refine Tr.val (V.move rfl) rfl ?_
  refine Tr.valG rfl (V.move rfl) rfl ?_
  refine Tr.valG rfl (V.gtr (b := true) rfl rfl (decide_eq_true (by omega))) rfl ?_
  refine Tr.val (V.pick rfl rfl) rfl ?_
  refine Tr.val (V.move rfl) rfl ?_
  refine Tr.skipG rfl rfl rfl ?_
  refine Tr.skipG rfl rfl rfl ?_
  refine Tr.val (V.pick rfl rfl) rfl ?_
  refine Tr.val (V.move rfl) rfl ?_
  refine Tr.skipG rfl rfl rfl ?_
  refine Tr.skipG rfl rfl rfl ?_
  refine Tr.skipG rfl rfl rfl ?_
  refine Tr.skipG rfl rfl rfl ?_
  refine Tr.val (V.pick rfl rfl) rfl ?_
  refine Tr.val (V.move rfl) rfl ?_
  refine Tr.skipG rfl rfl rfl ?_
  refine Tr.skipG rfl rfl rfl ?_
  refine Tr.skipG rfl rfl rfl ?_
  refine Tr.skipG rfl rfl rfl ?_
  refine Tr.skipG rfl rfl rfl ?_
  refine Tr.skipG rfl rfl rfl ?_
  refine Tr.val (V.pick rfl rfl) rfl ?_
  refine Tr.lNil ?_
  refine Tr.thenN ?_
  refine Tr.condT rfl ?_
  refine Tr.seq ?_
  refine Tr.region ?_
  refine Tr.val (V.assign (v := U64 0#64) rfl) rfl ?_
  refine Tr.val (V.assign rfl) rfl ?_
  refine Tr.lNil ?_
  refine Tr.thenN ?_
  refine Tr.ret ?_
  refine Tr.thenR ?_
  refine Tr.out2 rfl (Res.tmp rfl) (Res.tmp rfl) fun w hw => ?_
  exact ⟨rfl, hw⟩

theorem rget_no2 (p : Option Addr) (m c : Nat) (at0 size : Int) (big : Bool) (w : World) (hm : m ≤ 9223372036854775807) (ha0 : -9223372036854775808 ≤ at0) (ha1 : at0 ≤ 9223372036854775807) (h1 : ¬ size < 1) (h2 : ¬ 8 < size) (h : at0 < 0) :
    Calls Try.prog 21 [.slice p m c, .int .i64 at0, .int .i64 size, .bool big].toArray w fun r w' => r = .returned (.tuple #[U64 0#64, .bool false]) ∧ Hp w [] [] w' := by
  refine Tr.enter Try.func21 rfl Try.ntmps21 rfl (Hp.refl w) ?_
  refine Tr.seq ?_
  refine Tr.region ?_
  refine Tr.val (V.assign (v := U64 0#64) rfl) rfl ?_
  refine Tr.val (V.assign rfl) rfl ?_
  refine Tr.lNil ?_
  refine Tr.thenN ?_
  refine Tr.seq ?_
  refine Tr.seq ?_
  refine Tr.region ?_
  refine Tr.val (V.move rfl) rfl ?_
  refine Tr.val (V.lss (b := false) rfl rfl (decide_eq_false (by omega))) rfl ?_
  refine Tr.val (V.move rfl) rfl ?_
  refine Tr.valG rfl (V.move rfl) rfl ?_
  refine Tr.valG rfl (V.gtr (b := false) rfl rfl (decide_eq_false (by omega))) rfl ?_
  refine Tr.val (V.pick rfl rfl) rfl ?_
  refine Tr.val (V.move rfl) rfl ?_
  refine Tr.valG rfl (V.move rfl) rfl ?_
  refine Tr.valG rfl (V.lss (b := true) rfl rfl (decide_eq_true (by omega))) rfl ?_
  refine Tr.val (V.pick rfl rfl) rfl ?_
  refine Tr.val (V.move rfl) rfl ?_
  refine Tr.skipG rfl rfl rfl ?_
  refine Tr.skipG rfl rfl rfl ?_
  refine Tr.skipG rfl rfl rfl ?_
  refine Tr.skipG rfl rfl rfl ?_
  refine Tr.val (V.pick rfl rfl) rfl ?_
  refine Tr.val (V.move rfl) rfl ?_
  refine Tr.skipG rfl rfl rfl ?_
  refine Tr.skipG rfl rfl rfl ?_
  refine Tr.skipG rfl rfl rfl ?_
  refine Tr.skipG rfl rfl rfl ?_
  refine Tr.skipG rfl rfl rfl ?_
  refine Tr.skipG rfl rfl rfl ?_
  refine Tr.val (V.pick rfl rfl) rfl ?_
  refine Tr.lNil ?_
  refine Tr.thenN ?_
  refine Tr.condT rfl ?_
  refine Tr.seq ?_
  refine Tr.region ?_
  refine Tr.val (V.assign (v := U64 0#64) rfl) rfl ?_
  refine Tr.val (V.assign rfl) rfl ?_
  refine Tr.lNil ?_
  refine Tr.thenN ?_
  refine Tr.ret ?_
  refine Tr.thenR ?_
  refine Tr.out2 rfl (Res.tmp rfl) (Res.tmp rfl) fun w hw => ?_
  exact ⟨rfl, hw⟩

theorem rget_no3 (p : Option Addr) (m c : Nat) (at0 size : Int) (big : Bool) (w : World) (hm : m ≤ 9223372036854775807) (ha0 : -9223372036854775808 ≤ at0) (ha1 : at0 ≤ 9223372036854775807) (h1 : ¬ size < 1) (h2 : ¬ 8 < size) (h3 : ¬ at0 < 0) (h : (m : Int) < at0) :
    Calls Try.prog 21 [.slice p m c, .int .i64 at0, .int .i64 size, .bool big].toArray w fun r w' => r = .returned (.tuple #[U64 0#64, .bool false]) ∧ Hp w [] [] w' := by
  refine Tr.enter Try.func21 rfl Try.ntmps21 rfl (Hp.refl w) ?_
  refine Tr.seq ?_
  refine Tr.region ?_
  refine Tr.val (V.assign (v := U64 0#64) rfl) rfl ?_
  refine Tr.val (V.assign rfl) rfl ?_
  refine Tr.lNil ?_
  refine Tr.thenN ?_
  refine Tr.seq ?_
  refine Tr.seq ?_
  refine Tr.region ?_
  refine Tr.val (V.move rfl) rfl ?_
  refine Tr.val (V.lss (b := false) rfl rfl (decide_eq_false (by omega))) rfl ?_
  refine Tr.val (V.move rfl) rfl ?_
  refine Tr.valG rfl (V.move rfl) rfl ?_
  refine Tr.valG rfl (V.gtr (b := false) rfl rfl (decide_eq_false (by omega))) rfl ?_
  refine Tr.val (V.pick rfl rfl) rfl ?_
  refine Tr.val (V.move rfl) rfl ?_
  refine Tr.valG rfl (V.move rfl) rfl ?_
  refine Tr.valG rfl (V.lss (b := false) rfl rfl (decide_eq_false (by omega))) rfl ?_
  refine Tr.val (V.pick rfl rfl) rfl ?_
  refine Tr.val (V.move rfl) rfl ?_
  refine Tr.valG rfl (V.move rfl) rfl ?_
  refine Tr.valG rfl (V.move rfl) rfl ?_
  refine Tr.valG rfl (V.len Try.runUnderlying22 rfl) rfl ?_
  refine Tr.valG rfl (V.gtr (b := true) rfl rfl (decide_eq_true (by omega))) rfl ?_
  refine Tr.val (V.pick rfl rfl) rfl ?_
  refine Tr.val (V.move rfl) rfl ?_
  refine Tr.skipG rfl rfl rfl ?_
  refine Tr.skipG rfl rfl rfl ?_
  refine Tr.skipG rfl rfl rfl ?_
  refine Tr.skipG rfl rfl rfl ?_
  refine Tr.skipG rfl rfl rfl ?_
  refine Tr.skipG rfl rfl rfl ?_
  refine Tr.val (V.pick rfl rfl) rfl ?_
  refine Tr.lNil ?_
  refine Tr.thenN ?_
  refine Tr.condT rfl ?_
  refine Tr.seq ?_
  refine Tr.region ?_
  refine Tr.val (V.assign (v := U64 0#64) rfl) rfl ?_
  refine Tr.val (V.assign rfl) rfl ?_
  refine Tr.lNil ?_
  refine Tr.thenN ?_
  refine Tr.ret ?_
  refine Tr.thenR ?_
  refine Tr.out2 rfl (Res.tmp rfl) (Res.tmp rfl) fun w hw => ?_
  exact ⟨rfl, hw⟩

theorem rget_no4 (p : Option Addr) (m c : Nat) (at0 size : Int) (big : Bool) (w : World) (hm : m ≤ 9223372036854775807) (ha0 : -9223372036854775808 ≤ at0) (ha1 : at0 ≤ 9223372036854775807) (h1 : ¬ size < 1) (h2 : ¬ 8 < size) (h3 : ¬ at0 < 0) (h4 : ¬ (m : Int) < at0) (h : (m : Int) - at0 < size) :
    Calls Try.prog 21 [.slice p m c, .int .i64 at0, .int .i64 size, .bool big].toArray w fun r w' => r = .returned (.tuple #[U64 0#64, .bool false]) ∧ Hp w [] [] w' := by
  refine Tr.enter Try.func21 rfl Try.ntmps21 rfl (Hp.refl w) ?_
  refine Tr.seq ?_
  refine Tr.region ?_
  refine Tr.val (V.assign (v := U64 0#64) rfl) rfl ?_
  refine Tr.val (V.assign rfl) rfl ?_
  refine Tr.lNil ?_
  refine Tr.thenN ?_
  refine Tr.seq ?_
  refine Tr.seq ?_
  refine Tr.region ?_
  refine Tr.val (V.move rfl) rfl ?_
  refine Tr.val (V.lss (b := false) rfl rfl (decide_eq_false (by omega))) rfl ?_
  refine Tr.val (V.move rfl) rfl ?_
  refine Tr.valG rfl (V.move rfl) rfl ?_
  refine Tr.valG rfl (V.gtr (b := false) rfl rfl (decide_eq_false (by omega))) rfl ?_
  refine Tr.val (V.pick rfl rfl) rfl ?_
  refine Tr.val (V.move rfl) rfl ?_
  refine Tr.valG rfl (V.move rfl) rfl ?_
  refine Tr.valG rfl (V.lss (b := false) rfl rfl (decide_eq_false (by omega))) rfl ?_
  refine Tr.val (V.pick rfl rfl) rfl ?_
  refine Tr.val (V.move rfl) rfl ?_
  refine Tr.valG rfl (V.move rfl) rfl ?_
  refine Tr.valG rfl (V.move rfl) rfl ?_
  refine Tr.valG rfl (V.len Try.runUnderlying22 rfl) rfl ?_
  refine Tr.valG rfl (V.gtr (b := false) rfl rfl (decide_eq_false (by omega))) rfl ?_
  refine Tr.val (V.pick rfl rfl) rfl ?_
  refine Tr.val (V.move rfl) rfl ?_
  refine Tr.valG rfl (V.move rfl) rfl ?_
  refine Tr.valG rfl (V.move rfl) rfl ?_
  refine Tr.valG rfl (V.len Try.runUnderlying22 rfl) rfl ?_
  refine Tr.valG rfl (V.move rfl) rfl ?_
  refine Tr.valG rfl (V.sub rfl rfl (by omega)) rfl ?_
  refine Tr.valG rfl (V.gtr (b := true) rfl rfl (decide_eq_true (by omega))) rfl ?_
  refine Tr.val (V.pick rfl rfl) rfl ?_
  refine Tr.lNil ?_
  refine Tr.thenN ?_
  refine Tr.condT rfl ?_
  refine Tr.seq ?_
  refine Tr.region ?_
  refine Tr.val (V.assign (v := U64 0#64) rfl) rfl ?_
  refine Tr.val (V.assign rfl) rfl ?_
  refine Tr.lNil ?_
  refine Tr.thenN ?_
  refine Tr.ret ?_
  refine Tr.thenR ?_
  refine Tr.out2 rfl (Res.tmp rfl) (Res.tmp rfl) fun w hw => ?_
  exact ⟨rfl, hw⟩

theorem get_no (p : Option Addr) (m c : Nat) (at0 size : Int) (big : Bool) (w : World) (hm : m ≤ 9223372036854775807) (ha0 : -9223372036854775808 ≤ at0) (ha1 : at0 ≤ 9223372036854775807) (h : ¬ (1 ≤ size ∧ size ≤ 8 ∧ 0 ≤ at0 ∧ at0 + size ≤ m)) :
    Calls Try.prog 20 [.slice p m c, .int .i64 at0, .int .i64 size, .bool big].toArray w fun r w' => r = .returned (.tuple #[U64 0#64, .bool false]) ∧ Hp w [] [] w' := by
  by_cases h1 : size < 1
  · exact get_no0 p m c at0 size big w hm ha0 ha1 h1
  · by_cases h2 : 8 < size
    · exact get_no1 p m c at0 size big w hm ha0 ha1 h1 h2
    · by_cases h3 : at0 < 0
      · exact get_no2 p m c at0 size big w hm ha0 ha1 h1 h2 h3
      · exact get_no3 p m c at0 size big w hm ha0 ha1 h1 h2 h3 (by omega)

theorem rget_no (p : Option Addr) (m c : Nat) (at0 size : Int) (big : Bool) (w : World) (hm : m ≤ 9223372036854775807) (ha0 : -9223372036854775808 ≤ at0) (ha1 : at0 ≤ 9223372036854775807) (h : ¬ (1 ≤ size ∧ size ≤ 8 ∧ 0 ≤ at0 ∧ at0 + size ≤ m)) :
    Calls Try.prog 21 [.slice p m c, .int .i64 at0, .int .i64 size, .bool big].toArray w fun r w' => r = .returned (.tuple #[U64 0#64, .bool false]) ∧ Hp w [] [] w' := by
  by_cases h1 : size < 1
  · exact rget_no0 p m c at0 size big w hm ha0 ha1 h1
  · by_cases h2 : 8 < size
    · exact rget_no1 p m c at0 size big w hm ha0 ha1 h1 h2
    · by_cases h3 : at0 < 0
      · exact rget_no2 p m c at0 size big w hm ha0 ha1 h1 h2 h3
      · by_cases h4 : (m : Int) < at0
        · exact rget_no3 p m c at0 size big w hm ha0 ha1 h1 h2 h3 h4
        · exact rget_no4 p m c at0 size big w hm ha0 ha1 h1 h2 h3 h4 (by omega)

theorem rput_any (p : Option Addr) (m c : Nat) (xs : List (BitVec 8)) (i0 : Int) (nn : BitVec 64) (big : Bool) (w : World) (hr : RdB w p (xs.map U8)) (hl : xs.length = m) (hm : m ≤ 140737488355000) :
    Calls Try.prog 22 [.slice p m c, .int .i64 i0, U64 nn, .bool big].toArray w fun r w' => ∃ x : Nat × Nat × List Value, r = .returned (.slice (some ⟨x.1, 0, none⟩) (m + effI i0) x.2.1) ∧ Hp w [] [⟨x.1, 5, (xs ++ putW big nn (effI i0)).map U8 ++ x.2.2⟩] w' ∧ ((xs ++ putW big nn (effI i0)).map U8 ++ x.2.2).length = x.2.1 := by
  obtain ⟨sz, hsz⟩ : ∃ sz, sz = effI i0 := ⟨_, rfl⟩
  have hs8 : sz ≤ 8 := by rw [hsz]; exact effI_le i0
  have hse := effI_eq i0
  rw [← hsz] at hse ⊢
  have hpl : (putW big nn sz).length = sz := putW_len big nn sz
  refine Tr.enter Try.func22 rfl Try.ntmps22 rfl (Hp.refl w) ?_
  refine Tr.seq ?_
  refine Tr.region ?_
  refine Tr.val (V.assign rfl) rfl ?_
  refine Tr.lNil ?_
  refine Tr.thenN ?_
  refine Tr.seq ?_
  refine Tr.region ?_
  refine Tr.op (W.build elem22 W.parts0 rfl (by simp) (by omega) rfl fun g0 => ?_)
  refine Tr.val (V.move rfl) rfl ?_
  refine Tr.op (W.append (xs := []) (junk := []) elem22 rfl rfl (RdP.old hr (fun _ _ => by simp)) (by simpa using hl) (by simp [Value.oneCell']) (fun y => .head) rfl rfl (by omega) (by omega) rfl fun g1 cap1 junk1 hc1 => ?_)
  refine Tr.val (V.assign rfl) rfl ?_
  refine Tr.lNil ?_
  refine Tr.thenN ?_
  refine Tr.seq ?_
  refine Tr.region ?_
  refine Tr.val (V.move rfl) rfl ?_
  refine Tr.val (V.max rfl rfl rfl) rfl ?_
  refine Tr.val (V.min rfl rfl hse) rfl ?_
  refine Tr.val (V.assign rfl) rfl ?_
  refine Tr.lNil ?_
  refine Tr.thenN ?_
  refine Tr.seq ?_
  refine Tr.seq ?_
  refine Tr.region ?_
  refine Tr.val (V.assign rfl) rfl ?_
  refine Tr.lNil ?_
  refine Tr.thenN ?_
  refine Tr.block ?_
  refine Tr.loop (ι := Nat × Nat × Nat × List Value) (fun x => x.1 ≤ sz ∧ ((xs ++ (putW big nn sz).take x.1).map U8 ++ x.2.2.2).length = x.2.2.1) (fun x => [(1, .int .i64 (sz : Int)), (2, U64 nn), (3, .bool big), (9, .slice (some ⟨x.2.1, 0, none⟩) (m + x.1) x.2.2.1), (10, .int .i64 (x.1 : Int))]) (fun x => [⟨x.2.1, 5, (xs ++ (putW big nn sz).take x.1).map U8 ++ x.2.2.2⟩]) (fun x => sz - x.1) (0, g1, cap1, junk1) ⟨Nat.zero_le _, by simp at hc1 ⊢; omega⟩ (lk_cons rfl (lk_cons rfl (lk_cons rfl (lk_cons (by simp only [Nat.zero_add, Nat.add_zero]; rfl) (lk_cons rfl (lk_nil _)))))) (by simp only [List.take_zero, List.append_nil]; exact List.Sublist.refl _) fun x hI => ?_
  obtain ⟨k, g, cap, junk⟩ := x
  obtain ⟨hkz, hc⟩ := hI
  simp only at hkz hc
  refine Tr.seq ?_
  refine Tr.seq ?_
  refine Tr.region ?_
  refine Tr.val (V.move rfl) rfl ?_
  refine Tr.val (V.move rfl) rfl ?_
  refine Tr.val (V.lss rfl rfl rfl) rfl ?_
  refine Tr.lNil ?_
  refine Tr.thenN ?_
  refine Tr.cond rfl (fun hT0 => ?_) (fun hF0 => ?_)
  · simp only [decide_eq_true_eq] at hT0
    refine Tr.skip ?_
    refine Tr.thenN ?_
    refine Tr.seq ?_
    refine Tr.block ?_
    refine Tr.seq ?_
    refine Tr.region ?_
    refine Tr.val (V.move rfl) rfl ?_
    refine Tr.val (V.assign rfl) rfl ?_
    refine Tr.lNil ?_
    refine Tr.thenN ?_
    refine Tr.seq ?_
    refine Tr.seq ?_
    refine Tr.region ?_
    refine Tr.val (V.move rfl) rfl ?_
    refine Tr.lNil ?_
    refine Tr.thenN ?_
    refine Tr.cond rfl (fun hT1 => ?_) (fun hF1 => ?_)
    · have hlt : k < sz := by omega
      obtain ⟨kk, hkk, hk2⟩ : ∃ kk : Nat, (sz : Int) - 1 - (k : Int) = (kk : Int) ∧ kk = if big then sz - 1 - k else k := ⟨sz - 1 - k, by omega, by rw [hT1]; rfl⟩
      refine Tr.region ?_
      refine Tr.val (V.move rfl) rfl ?_
      refine Tr.val (V.sub rfl rfl (by omega)) rfl ?_
      refine Tr.val (V.move rfl) rfl ?_
      refine Tr.val (V.sub rfl rfl (by omega)) rfl ?_
      refine Tr.val (V.assign rfl) rfl ?_
      refine Tr.lNil ?_
      refine Tr.thenN ?_
      refine Tr.seq ?_
      refine Tr.region ?_
      refine Tr.val (V.move rfl) rfl ?_
      refine Tr.val (V.assign rfl) rfl ?_
      refine Tr.lNil ?_
      refine Tr.thenN ?_
      refine Tr.seq ?_
      refine Tr.seq ?_
      refine Tr.region ?_
      refine Tr.val (V.assign rfl) rfl ?_
      refine Tr.lNil ?_
      refine Tr.thenN ?_
      refine Tr.block ?_
      refine Tr.loop (ι := Nat) (fun j => j ≤ kk) (fun j => [(1, .int .i64 (sz : Int)), (2, U64 nn), (3, .bool big), (9, .slice (some ⟨g, 0, none⟩) (m + k) cap), (10, .int .i64 (k : Int)), (11, .int .i64 (kk : Int)), (12, U64 (rep (fun x => x / 256#64) j nn)), (13, .int .i64 (j : Int))]) (fun j => [⟨g, 5, (xs ++ (putW big nn sz).take k).map U8 ++ junk⟩]) (fun j => kk - j) 0 (Nat.zero_le _) (lk_cons rfl (lk_cons rfl (lk_cons rfl (lk_cons rfl (lk_cons rfl (lk_cons (by rw [← hkk]; rfl) (lk_cons rfl (lk_cons rfl (lk_nil _))))))))) (List.Sublist.refl _) fun j hI => ?_
      refine Tr.seq ?_
      refine Tr.seq ?_
      refine Tr.region ?_
      refine Tr.val (V.move rfl) rfl ?_
      refine Tr.val (V.move rfl) rfl ?_
      refine Tr.val (V.lss rfl rfl rfl) rfl ?_
      refine Tr.lNil ?_
      refine Tr.thenN ?_
      refine Tr.cond rfl (fun hT2 => ?_) (fun hF2 => ?_)
      · simp only [decide_eq_true_eq] at hT2
        refine Tr.skip ?_
        refine Tr.thenN ?_
        refine Tr.seq ?_
        refine Tr.block ?_
        refine Tr.region ?_
        refine Tr.val (V.move rfl) rfl ?_
        refine Tr.val (V.quo64 (Y := 256#64) rfl rfl (by decide)) rfl ?_
        refine Tr.val (V.assign rfl) rfl ?_
        refine Tr.lNil ?_
        refine Tr.inN ?_
        refine Tr.thenN ?_
        refine Tr.region ?_
        refine Tr.val (V.move rfl) rfl ?_
        refine Tr.val (V.add rfl rfl (by omega)) rfl ?_
        refine Tr.val (V.assign rfl) rfl ?_
        refine Tr.lNil ?_
        exact Tr.again (j + 1) (by omega) (by omega) (lk_cons rfl (lk_cons rfl (lk_cons rfl (lk_cons rfl (lk_cons rfl (lk_cons rfl (lk_cons rfl (lk_cons rfl (lk_nil _))))))))) (List.Sublist.refl _)
      · simp only [decide_eq_false_iff_not] at hF2
        obtain rfl : kk = j := by omega
        have hpg := putW_get big nn hlt hk2
        have htk : (xs ++ (putW big nn sz).take (k + 1)).map U8 = (xs ++ (putW big nn sz).take k).map U8 ++ [U8 ((rep (fun x => x / 256#64) kk nn % 256#64).setWidth 8)] := by
          obtain ⟨h1, h2⟩ := List.getElem?_eq_some_iff.1 hpg
          rw [List.take_succ_eq_append_getElem h1, h2, mod_byte, rep_div]; simp
        refine Tr.exit ?_
        refine Tr.thenX ?_
        refine Tr.thenX ?_
        refine Tr.inHit ?_
        refine Tr.thenN ?_
        refine Tr.region ?_
        refine Tr.val (V.move rfl) rfl ?_
        refine Tr.val (V.move rfl) rfl ?_
        refine Tr.val (V.rem64 (Y := 256#64) rfl rfl (by decide)) rfl ?_
        refine Tr.val (V.conv64_8 Try.runUnderlying23 Try.runUnderlying5 rfl) rfl ?_
        refine Tr.op (W.build (vs := [U8 ((rep (fun x => x / 256#64) kk nn % 256#64).setWidth 8)]) elem22 (W.parts1 rfl) rfl (by simp [Value.cells]) (by omega) rfl fun g2 => ?_)
        refine Tr.op (W.append elem22 rfl rfl (RdP.blk (cs := [U8 ((rep (fun x => x / 256#64) kk nn % 256#64).setWidth 8)]) (List.Mem.head _) 0 1) rfl (by simp [Value.oneCell']) (fun y => .tail .head) (by simp; omega) hc (by omega) (by omega) rfl fun g3 cap3 junk3 hc3 => ?_)
        refine Tr.val (V.assign rfl) rfl ?_
        refine Tr.lNil ?_
        refine Tr.inN ?_
        refine Tr.thenN ?_
        refine Tr.region ?_
        refine Tr.val (V.move rfl) rfl ?_
        refine Tr.val (V.add rfl rfl (by omega)) rfl ?_
        refine Tr.val (V.assign rfl) rfl ?_
        refine Tr.lNil ?_
        exact Tr.again (k + 1, g3, cap3, junk3) ⟨by omega, by rw [htk]; exact hc3⟩ (by simp only; omega) (lk_cons rfl (lk_cons rfl (lk_cons rfl (lk_cons rfl (lk_cons rfl (lk_nil _)))))) (by rw [htk]; exact List.sublist_cons_self _ _)
    · have hlt : k < sz := by omega
      obtain ⟨kk, hkk, hk2⟩ : ∃ kk : Nat, (k : Int) = (kk : Int) ∧ kk = if big then sz - 1 - k else k := ⟨k, rfl, by rw [hF1]; rfl⟩
      refine Tr.skip ?_
      refine Tr.thenN ?_
      refine Tr.seq ?_
      refine Tr.region ?_
      refine Tr.val (V.move rfl) rfl ?_
      refine Tr.val (V.assign rfl) rfl ?_
      refine Tr.lNil ?_
      refine Tr.thenN ?_
      refine Tr.seq ?_
      refine Tr.seq ?_
      refine Tr.region ?_
      refine Tr.val (V.assign rfl) rfl ?_
      refine Tr.lNil ?_
      refine Tr.thenN ?_
      refine Tr.block ?_
      refine Tr.loop (ι := Nat) (fun j => j ≤ kk) (fun j => [(1, .int .i64 (sz : Int)), (2, U64 nn), (3, .bool big), (9, .slice (some ⟨g, 0, none⟩) (m + k) cap), (10, .int .i64 (k : Int)), (11, .int .i64 (kk : Int)), (12, U64 (rep (fun x => x / 256#64) j nn)), (13, .int .i64 (j : Int))]) (fun j => [⟨g, 5, (xs ++ (putW big nn sz).take k).map U8 ++ junk⟩]) (fun j => kk - j) 0 (Nat.zero_le _) (lk_cons rfl (lk_cons rfl (lk_cons rfl (lk_cons rfl (lk_cons rfl (lk_cons (by rw [← hkk]; rfl) (lk_cons rfl (lk_cons rfl (lk_nil _))))))))) (List.Sublist.refl _) fun j hI => ?_
      refine Tr.seq ?_
      refine Tr.seq ?_
      refine Tr.region ?_
      refine Tr.val (V.move rfl) rfl ?_
      refine Tr.val (V.move rfl) rfl ?_
      refine Tr.val (V.lss rfl rfl rfl) rfl ?_
      refine Tr.lNil ?_
      refine Tr.thenN ?_
      refine Tr.cond rfl (fun hT3 => ?_) (fun hF3 => ?_)
      · simp only [decide_eq_true_eq] at hT3
        refine Tr.skip ?_
        refine Tr.thenN ?_
        refine Tr.seq ?_
        refine Tr.block ?_
        refine Tr.region ?_
        refine Tr.val (V.move rfl) rfl ?_
        refine Tr.val (V.quo64 (Y := 256#64) rfl rfl (by decide)) rfl ?_
        refine Tr.val (V.assign rfl) rfl ?_
        refine Tr.lNil ?_
        refine Tr.inN ?_
        refine Tr.thenN ?_
        refine Tr.region ?_
        refine Tr.val (V.move rfl) rfl ?_
        refine Tr.val (V.add rfl rfl (by omega)) rfl ?_
        refine Tr.val (V.assign rfl) rfl ?_
        refine Tr.lNil ?_
        exact Tr.again (j + 1) (by omega) (by omega) (lk_cons rfl (lk_cons rfl (lk_cons rfl (lk_cons rfl (lk_cons rfl (lk_cons rfl (lk_cons rfl (lk_cons rfl (lk_nil _))))))))) (List.Sublist.refl _)
      · simp only [decide_eq_false_iff_not] at hF3
        obtain rfl : kk = j := by omega
        have hpg := putW_get big nn hlt hk2
        have htk : (xs ++ (putW big nn sz).take (k + 1)).map U8 = (xs ++ (putW big nn sz).take k).map U8 ++ [U8 ((rep (fun x => x / 256#64) kk nn % 256#64).setWidth 8)] := by
          obtain ⟨h1, h2⟩ := List.getElem?_eq_some_iff.1 hpg
          rw [List.take_succ_eq_append_getElem h1, h2, mod_byte, rep_div]; simp
        refine Tr.exit ?_
        refine Tr.thenX ?_
        refine Tr.thenX ?_
        refine Tr.inHit ?_
        refine Tr.thenN ?_
        refine Tr.region ?_
        refine Tr.val (V.move rfl) rfl ?_
        refine Tr.val (V.move rfl) rfl ?_
        refine Tr.val (V.rem64 (Y := 256#64) rfl rfl (by decide)) rfl ?_
        refine Tr.val (V.conv64_8 Try.runUnderlying23 Try.runUnderlying5 rfl) rfl ?_
        refine Tr.op (W.build (vs := [U8 ((rep (fun x => x / 256#64) kk nn % 256#64).setWidth 8)]) elem22 (W.parts1 rfl) rfl (by simp [Value.cells]) (by omega) rfl fun g2 => ?_)
        refine Tr.op (W.append elem22 rfl rfl (RdP.blk (cs := [U8 ((rep (fun x => x / 256#64) kk nn % 256#64).setWidth 8)]) (List.Mem.head _) 0 1) rfl (by simp [Value.oneCell']) (fun y => .tail .head) (by simp; omega) hc (by omega) (by omega) rfl fun g3 cap3 junk3 hc3 => ?_)
        refine Tr.val (V.assign rfl) rfl ?_
        refine Tr.lNil ?_
        refine Tr.inN ?_
        refine Tr.thenN ?_
        refine Tr.region ?_
        refine Tr.val (V.move rfl) rfl ?_
        refine Tr.val (V.add rfl rfl (by omega)) rfl ?_
        refine Tr.val (V.assign rfl) rfl ?_
        refine Tr.lNil ?_
        exact Tr.again (k + 1, g3, cap3, junk3) ⟨by omega, by rw [htk]; exact hc3⟩ (by simp only; omega) (lk_cons rfl (lk_cons rfl (lk_cons rfl (lk_cons rfl (lk_cons rfl (lk_nil _)))))) (by rw [htk]; exact List.sublist_cons_self _ _)
  · simp only [decide_eq_false_iff_not] at hF0
    refine Tr.exit ?_
    refine Tr.thenX ?_
    refine Tr.thenX ?_
    refine Tr.inHit ?_
    refine Tr.thenN ?_
    refine Tr.seq ?_
    refine Tr.region ?_
    refine Tr.val (V.move rfl) rfl ?_
    refine Tr.val (V.assign rfl) rfl ?_
    refine Tr.lNil ?_
    refine Tr.thenN ?_
    refine Tr.ret ?_
    refine Tr.out1 rfl (Res.tmp rfl) fun w hw => ?_
    obtain rfl : k = sz := by omega
    rw [List.take_of_length_le (by omega)] at hw hc
    exact ⟨⟨g, cap, junk⟩, rfl, hw, hc⟩

end Go.Proofs.Ytnhfmmohdiccgaa
