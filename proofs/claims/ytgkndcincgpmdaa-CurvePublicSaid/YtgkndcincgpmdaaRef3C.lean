/-
  The contract of hatchwayref03.Mod. (Printed by a program of this session over its walk printer.)
-/
import Derived.Test.YtgkndcincgpmdaaRef3B
namespace Go.Proofs.Ytgkndcincgpmdaa
open Go.Sym Plain
set_option linter.unusedVariables false
set_option maxRecDepth 20000

theorem mod3_any (p : Option Addr) (m c n q r less v : Nat) (w : World) (hx : Nums w p m c (dig v)) (hm : m ≤ 200) (hn : n = 8 * q + r) (hr : r < 8) (hq : q ≤ 1000) (hl0 : 0 < less) (hl : less < 256) (hln : 2 * less < 2 ^ n) :
    Calls Try.prog 54 [.slice p m c, NV n, NV less].toArray w fun e w' => NumOut 3 w (v % (2 ^ n - less)) e w' ∨ (e = .returned (.slice p (dig (v % (2 ^ n - less))).length c) ∧ dig v = dig (v % (2 ^ n - less)) ∧ Hp w [] [] w') := by
  have hxl := hx.length
  have hld : Digs [less] := Digs.cons hl Digs.nil
  have hpp : 0 < 2 ^ n := Nat.two_pow_pos n
  have num_one : num [less] = less := by simp [num]
  refine Tr.enter Try.func54 rfl Try.ntmps54 rfl (Hp.refl w) ?_
  refine Tr.seq ?_
  refine Tr.region ?_
  refine Tr.val (V.assign rfl) rfl ?_
  refine Tr.lNil ?_
  refine Tr.thenN ?_
  refine Tr.seq ?_
  refine Tr.block ?_
  refine Tr.loop (ι := Nat × Row) (fun x => x.1 ≤ v ∧ x.1 % (2 ^ n - less) = v % (2 ^ n - less) ∧ (x.2 = none → dig x.1 = dig v) ∧ (∀ g c' junk, x.2 = some (g, c', junk) → ((dig x.1).map NV ++ junk).length = c')) (fun x => [(0, srcV p c x.2 (dig x.1).length), (1, NV n), (2, NV less)]) (fun x => x.2.blk 3 ((dig x.1).map NV)) (fun x => x.1) (v, none) ⟨Nat.le_refl _, rfl, fun _ => rfl, fun _ _ _ h => by cases h⟩ (lk_cons (by rw [← hxl]; rfl) (lk_cons rfl (lk_cons rfl (lk_nil _)))) (List.Sublist.refl _) fun x hI => ?_
  obtain ⟨v', o⟩ := x
  obtain ⟨hvv, hvm, ho1, ho2⟩ := hI
  simp only at hvv hvm ho1 ho2 ⊢
  obtain ⟨p', c', hv, hsrc⟩ := src_nums hx 3 o (dig v') ho1 ho2
  have hlv : (dig v').length ≤ 200 := by rw [← hxl] at hm; exact Nat.le_trans (dig_mono hvv) hm
  rw [hv]
  refine Tr.block ?_
  refine Tr.seq ?_
  refine Tr.region ?_
  refine Tr.val (V.move rfl) rfl ?_
  refine Tr.val (V.move rfl) rfl ?_
  refine Tr.op (W.callNum2 (N := v' % 2 ^ n) (M := v' / 2 ^ n)  (args2 rfl rfl) Try.call41 rfl (fun w1 hw => by have h := parts3_any p' (dig v').length c' n q r (dig v') w1 (hsrc _ w1 (by intro y hy; first | exact hy | simp [hy]) hw) (by omega) (dig_digs _) hn hr (by omega); rw [num_dig] at h; exact h) fun gl16 cl16 jl16 gh16 ch16 jh16 hkl16 hkh16 => ?_)
  refine Tr.val (V.move rfl) rfl ?_
  refine Tr.val (V.extract rfl rfl) rfl ?_
  refine Tr.val (V.extract rfl rfl) rfl ?_
  refine Tr.val (V.assign rfl) rfl ?_
  refine Tr.val (V.assign rfl) rfl ?_
  refine Tr.lNil ?_
  refine Tr.thenN ?_
  refine Tr.seq ?_
  refine Tr.seq ?_
  refine Tr.region ?_
  refine Tr.val (V.move rfl) rfl ?_
  refine Tr.val (V.len Try.runUnderlying53 rfl) rfl ?_
  refine Tr.val (V.eql rfl rfl rfl) rfl ?_
  refine Tr.lNil ?_
  refine Tr.thenN ?_
  refine Tr.cond rfl (fun hT0 => ?_) (fun hF0 => ?_)
  · simp only [decide_eq_true_eq] at hT0
    have hz : v' / 2 ^ n = 0 := dig_nil.1 (by omega)
    have hl5 : (dig (v' + less)).length ≤ 201 := dig_add hlv hl
    refine Tr.exit ?_
    refine Tr.thenX ?_
    refine Tr.inMiss rfl ?_
    refine Tr.thenX ?_
    refine Tr.inHit ?_
    refine Tr.thenN ?_
    refine Tr.seq ?_
    refine Tr.region ?_
    refine Tr.val (V.move rfl) rfl ?_
    refine Tr.val (V.move rfl) rfl ?_
    refine Tr.op (W.build (vs := [NV less]) elem53 (W.parts1 rfl) rfl (by simp [Value.cells]) (by omega) rfl fun g31 => ?_)
    refine Tr.op (W.callNum (N := v' + less)  (args2 rfl rfl) Try.call55 rfl (fun w1 hw => by have h := plus3_any p' (some ⟨g31, 0, none⟩) _ c' 1 1 (dig v') [less] w1 (hsrc _ w1 (by intro y hy; first | exact hy | simp [hy]) hw) ⟨(RdP.all (xs := [NV less]) (g := g31) (ty := 3) (by repeat (first | exact List.Mem.head _ | apply List.Mem.tail))).now hw, rfl, Nat.le_refl _⟩ (by omega) (by omega) (dig_digs _) hld; rw [num_dig, num_one] at h; exact h) fun g32 c32 junk32 hc32 => ?_)
    refine Tr.val (V.move rfl) rfl ?_
    refine Tr.op (W.callNum2 (N := (v' + less) % 2 ^ n) (M := (v' + less) / 2 ^ n)  (args2 rfl rfl) Try.call41 rfl (fun w1 hw => by have h := parts3_any (some ⟨g32, 0, none⟩) _ c32 n q r (dig (v' + less)) w1 (Nums.own hw (by repeat (first | exact List.Mem.head _ | apply List.Mem.tail)) rfl hc32) (by omega) (dig_digs _) hn hr (by omega); rw [num_dig] at h; exact h) fun gl34 cl34 jl34 gh34 ch34 jh34 hkl34 hkh34 => ?_)
    refine Tr.val (V.move rfl) rfl ?_
    refine Tr.val (V.extract rfl rfl) rfl ?_
    refine Tr.val (V.extract rfl rfl) rfl ?_
    refine Tr.val (V.assign rfl) rfl ?_
    refine Tr.val (V.assign rfl) rfl ?_
    refine Tr.lNil ?_
    refine Tr.thenN ?_
    refine Tr.seq ?_
    refine Tr.seq ?_
    refine Tr.region ?_
    refine Tr.val (V.move rfl) rfl ?_
    refine Tr.val (V.len Try.runUnderlying53 rfl) rfl ?_
    refine Tr.val (V.gtr rfl rfl rfl) rfl ?_
    refine Tr.lNil ?_
    refine Tr.thenN ?_
    refine Tr.cond rfl (fun hT1 => ?_) (fun hF1 => ?_)
    · simp only [decide_eq_true_eq] at hT1
      have hne : (v' + less) / 2 ^ n ≠ 0 := fun h => by rw [h, dig_zero] at hT1; simp at hT1
      have hml := mod_last v' (2 ^ n) less hpp (by omega) hz hne hln
      rw [hvm] at hml
      refine Tr.seq ?_
      refine Tr.region ?_
      refine Tr.val (V.move rfl) rfl ?_
      refine Tr.val (V.move rfl) rfl ?_
      refine Tr.op (W.build (vs := [NV less]) elem53 (W.parts1 rfl) rfl (by simp [Value.cells]) (by omega) rfl fun g43 => ?_)
      refine Tr.op (W.callNum (N := v' + less)  (args2 rfl rfl) Try.call55 rfl (fun w1 hw => by have h := plus3_any p' (some ⟨g43, 0, none⟩) _ c' 1 1 (dig v') [less] w1 (hsrc _ w1 (by intro y hy; first | exact hy | simp [hy]) hw) ⟨(RdP.all (xs := [NV less]) (g := g43) (ty := 3) (by repeat (first | exact List.Mem.head _ | apply List.Mem.tail))).now hw, rfl, Nat.le_refl _⟩ (by omega) (by omega) (dig_digs _) hld; rw [num_dig, num_one] at h; exact h) fun g44 c44 junk44 hc44 => ?_)
      refine Tr.val (V.move rfl) rfl ?_
      refine Tr.op (W.callNum2 (N := (v' + less) % 2 ^ n) (M := (v' + less) / 2 ^ n)  (args2 rfl rfl) Try.call41 rfl (fun w1 hw => by have h := parts3_any (some ⟨g44, 0, none⟩) _ c44 n q r (dig (v' + less)) w1 (Nums.own hw (by repeat (first | exact List.Mem.head _ | apply List.Mem.tail)) rfl hc44) (by omega) (dig_digs _) hn hr (by omega); rw [num_dig] at h; exact h) fun gl46 cl46 jl46 gh46 ch46 jh46 hkl46 hkh46 => ?_)
      refine Tr.val (V.move rfl) rfl ?_
      refine Tr.val (V.extract rfl rfl) rfl ?_
      refine Tr.val (V.extract rfl rfl) rfl ?_
      refine Tr.val (V.assign rfl) rfl ?_
      refine Tr.val (V.assign rfl) rfl ?_
      refine Tr.lNil ?_
      refine Tr.thenN ?_
      refine Tr.seq ?_
      refine Tr.region ?_
      refine Tr.val (V.move rfl) rfl ?_
      refine Tr.val (V.assign rfl) rfl ?_
      refine Tr.lNil ?_
      refine Tr.thenN ?_
      refine Tr.ret ?_
      refine Tr.thenR ?_
      refine Tr.out1 rfl (Res.tmp rfl) fun w hw => ?_
      exact .inl ⟨⟨gl46, cl46, jl46⟩, by rw [← hml]; rfl, by rw [← hml]; exact hw.sub (.cons _ (.cons_cons _ (List.nil_sublist _))), by rw [← hml]; exact hkl46⟩
    · simp only [decide_eq_false_iff_not] at hF1
      have hz2 : (v' + less) / 2 ^ n = 0 := dig_nil.1 (by omega)
      have hmd := mod_done v' (2 ^ n) less hpp hz2
      rw [hvm] at hmd
      refine Tr.skip ?_
      refine Tr.thenN ?_
      refine Tr.seq ?_
      refine Tr.region ?_
      refine Tr.val (V.move rfl) rfl ?_
      refine Tr.op (W.call1 (args1 rfl) Try.call53 rfl (fun w1 hw => trim_any p' (dig v').length c' (dig v') w1 (hsrc _ w1 (by intro y hy; first | exact hy | simp [hy]) hw) (by omega)) ?_)
      refine Tr.val (V.assign rfl) rfl ?_
      refine Tr.lNil ?_
      refine Tr.thenN ?_
      refine Tr.ret ?_
      refine Tr.out1 rfl (Res.tmp rfl) fun w hw => ?_
      rcases o with _ | ⟨g, c2, junk⟩
      · obtain ⟨rfl, _, rfl⟩ := Value.slice.inj hv
        exact .inr ⟨by rw [trim_dig, ← hmd], by rw [← hmd]; exact (ho1 rfl).symm, hw.sub (List.nil_sublist _)⟩
      · obtain ⟨rfl, _, rfl⟩ := Value.slice.inj hv
        exact .inl ⟨⟨g, c2, junk⟩, by rw [trim_dig, ← hmd], by rw [← hmd]; exact hw.sub (List.sublist_append_right [_, _, _, _, _, _] _), by rw [← hmd]; exact ho2 _ _ _ rfl⟩
  · simp only [decide_eq_false_iff_not] at hF0
    have hne : v' / 2 ^ n ≠ 0 := fun h => hF0 (by rw [h, dig_zero]; rfl)
    obtain ⟨hs1, hs2⟩ := mod_step v' (2 ^ n) less (by omega) hne
    have hl2 : (dig (v' % 2 ^ n)).length ≤ 200 := Nat.le_trans (dig_mono (Nat.mod_le _ _)) hlv
    have hl3 : (dig (v' / 2 ^ n)).length ≤ 200 := Nat.le_trans (dig_mono (Nat.div_le_self _ _)) hlv
    have hl4 : (dig (v' / 2 ^ n * less)).length ≤ 200 := Nat.le_trans (dig_mono (by omega)) hlv
    rw [hvm] at hs2
    refine Tr.skip ?_
    refine Tr.thenN ?_
    refine Tr.region ?_
    refine Tr.val (V.move rfl) rfl ?_
    refine Tr.val (V.move rfl) rfl ?_
    refine Tr.val (V.move rfl) rfl ?_
    refine Tr.op (W.build (vs := [NV less]) elem53 (W.parts1 rfl) rfl (by simp [Value.cells]) (by omega) rfl fun g25 => ?_)
    refine Tr.op (W.callNum (N := v' / 2 ^ n * less)  (args2 rfl rfl) Try.call47 rfl (fun w1 hw => by have h := times3_any (some ⟨gh16, 0, none⟩) (some ⟨g25, 0, none⟩) _ ch16 1 1 (dig (v' / 2 ^ n)) [less] w1 (Nums.own hw (by repeat (first | exact List.Mem.head _ | apply List.Mem.tail)) rfl hkh16) ⟨(RdP.all (xs := [NV less]) (g := g25) (ty := 3) (by repeat (first | exact List.Mem.head _ | apply List.Mem.tail))).now hw, rfl, Nat.le_refl _⟩ (by omega) (by omega) (dig_digs _) hld; rw [num_dig, num_one] at h; exact h) fun g26 c26 junk26 hc26 => ?_)
    refine Tr.op (W.callNum (N := v' % 2 ^ n + v' / 2 ^ n * less)  (args2 rfl rfl) Try.call55 rfl (fun w1 hw => by have h := plus3_any (some ⟨gl16, 0, none⟩) (some ⟨g26, 0, none⟩) _ cl16 _ c26 (dig (v' % 2 ^ n)) (dig (v' / 2 ^ n * less)) w1 (Nums.own hw (by repeat (first | exact List.Mem.head _ | apply List.Mem.tail)) rfl hkl16) (Nums.own hw (by repeat (first | exact List.Mem.head _ | apply List.Mem.tail)) rfl hc26) (by omega) (by omega) (dig_digs _) (dig_digs _); rw [num_dig, num_dig] at h; exact h) fun g27 c27 junk27 hc27 => ?_)
    refine Tr.val (V.assign rfl) rfl ?_
    refine Tr.lNil ?_
    refine Tr.inN ?_
    exact Tr.again (v' % 2 ^ n + v' / 2 ^ n * less, some (g27, c27, junk27)) ⟨by simp only; omega, by simp only; omega, fun h => (by cases h), fun _ _ _ h => by cases h; exact hc27⟩ (by simp only; omega) (lk_cons rfl (lk_cons rfl (lk_cons rfl (lk_nil _)))) (.cons_cons _ (List.nil_sublist _))

end Go.Proofs.Ytgkndcincgpmdaa
