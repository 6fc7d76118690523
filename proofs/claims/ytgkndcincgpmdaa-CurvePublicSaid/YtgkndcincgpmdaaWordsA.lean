/-
  Contracts of the functions of package words that only reckon or read. (Printed by words1.py over the walk printer of this session.)
-/
import Derived.Test.YtgkndcincgpmdaaFacts
import Derived.Test.YtgkndcincgpmdaaPlainWords
namespace Go.Proofs.Ytgkndcincgpmdaa
open Go.Sym Plain

theorem get_ok (p : Option Addr) (m c at0 size : Nat) (big : Bool) (xs : List (BitVec 8)) (w : World) (hr : RdB w p (xs.map U8)) (hl : xs.length = m) (hm : m ≤ 9223372036854775807) (h1 : 1 ≤ size) (h8 : size ≤ 8) (ha : at0 + size ≤ m) :
    Calls Try.prog 30 [.slice p m c, .int .i64 (at0 : Int), .int .i64 (size : Int), .bool big].toArray w fun r w' => r = .returned (.tuple #[U64 (getW big xs at0 size), .bool true]) ∧ Hp w [] [] w' := by
  have hrd : RdP w [] [] p (xs.map U8) := RdP.old hr (fun _ _ => by simp)
  have hp : p.isSome = true := hrd.isSome (Hp.refl w) (by simp; omega)
  refine Tr.enter Try.func30 rfl Try.ntmps30 rfl (Hp.refl w) ?_
  refine Tr.seq ?_
  refine Tr.region ?_
  refine Tr.val (V.assign (v := U64 0#64) rfl) rfl ?_
  refine Tr.val (V.assign rfl) rfl ?_
  refine Tr.lNil ?_
  refine Tr.thenN ?_
  refine Tr.seq ?_
  refine Tr.seq ?_
  refine Tr.region ?_
  refine Tr.val (V.move rfl) rfl ?_
  refine Tr.val (V.lss (b := false) rfl rfl (decide_eq_false (by omega))) rfl ?_
  refine Tr.val (V.move rfl) rfl ?_
  refine Tr.valG rfl (V.move rfl) rfl ?_
  refine Tr.valG rfl (V.gtr (b := false) rfl rfl (decide_eq_false (by omega))) rfl ?_
  refine Tr.val (V.pick rfl rfl) rfl ?_
  refine Tr.val (V.move rfl) rfl ?_
  refine Tr.valG rfl (V.move rfl) rfl ?_
  refine Tr.valG rfl (V.lss (b := false) rfl rfl (decide_eq_false (by omega))) rfl ?_
  refine Tr.val (V.pick rfl rfl) rfl ?_
  refine Tr.val (V.move rfl) rfl ?_
  refine Tr.valG rfl (V.move rfl) rfl ?_
  refine Tr.valG rfl (V.move rfl) rfl ?_
  refine Tr.valG rfl (V.len Try.runUnderlying29 rfl) rfl ?_
  refine Tr.valG rfl (V.move rfl) rfl ?_
  refine Tr.valG rfl (V.sub rfl rfl (by omega)) rfl ?_
  refine Tr.valG rfl (V.gtr (b := false) rfl rfl (decide_eq_false (by omega))) rfl ?_
  refine Tr.val (V.pick rfl rfl) rfl ?_
  refine Tr.lNil ?_
  refine Tr.thenN ?_
  refine Tr.condF rfl ?_
  refine Tr.skip ?_
  refine Tr.thenN ?_
  refine Tr.seq ?_
  refine Tr.seq ?_
  refine Tr.region ?_
  refine Tr.val (V.move rfl) rfl ?_
  refine Tr.val (V.move rfl) rfl ?_
  refine Tr.lNil ?_
  refine Tr.thenN ?_
  refine Tr.block ?_
  refine Tr.loop (ι := Nat) (fun k => k ≤ size) (fun k => [(0, .slice p m c), (1, .int .i64 (at0 : Int)), (2, .int .i64 (size : Int)), (3, .bool big), (8, U64 (getL ((ordB big (cutB xs at0 size)).take k))), (30, .int .i64 (size : Int)), (31, .int .i64 (k : Int))]) (fun _ => []) (fun k => size - k) 0 (Nat.zero_le _)
    (lk_cons rfl (lk_cons rfl (lk_cons rfl (lk_cons rfl (lk_cons rfl (lk_cons rfl (lk_cons rfl (lk_nil _)))))))) (List.Sublist.refl _) fun k hk => ?_
  refine Tr.seq ?_
  refine Tr.region ?_
  refine Tr.val (V.lss rfl rfl rfl) rfl ?_
  refine Tr.lNil ?_
  refine Tr.thenN ?_
  refine Tr.seq ?_
  refine Tr.cond rfl (fun hT1 => ?_) (fun hF1 => ?_)
  · simp only [decide_eq_true_eq] at hT1
    refine Tr.skip ?_
    refine Tr.thenN ?_
    refine Tr.seq ?_
    refine Tr.block ?_
    refine Tr.seq ?_
    refine Tr.region ?_
    refine Tr.val (V.move rfl) rfl ?_
    refine Tr.val (V.assign rfl) rfl ?_
    refine Tr.lNil ?_
    refine Tr.thenN ?_
    refine Tr.seq ?_
    refine Tr.region ?_
    refine Tr.val (V.move rfl) rfl ?_
    refine Tr.val (V.move rfl) rfl ?_
    refine Tr.val (V.add rfl rfl (by omega)) rfl ?_
    refine Tr.val (V.sub rfl rfl (by omega)) rfl ?_
    refine Tr.val (V.move rfl) rfl ?_
    refine Tr.val (V.sub rfl rfl (by omega)) rfl ?_
    refine Tr.val (V.assign rfl) rfl ?_
    refine Tr.lNil ?_
    refine Tr.thenN ?_
    refine Tr.seq ?_
    refine Tr.seq ?_
    refine Tr.region ?_
    refine Tr.val (V.move rfl) rfl ?_
    refine Tr.lNil ?_
    refine Tr.thenN ?_
    refine Tr.cond rfl (fun hT2 => ?_) (fun hF2 => ?_)
    · obtain rfl : big = true := hT2
      have hlt : k < size := by omega
      obtain ⟨b, hb⟩ : ∃ b, xs[at0 + k]? = some b := ⟨_, List.getElem?_eq_getElem (by omega)⟩
      have hstep := ord_T (xs := xs) (at0 := at0) (size := size) (by omega) hlt hb
      obtain ⟨jx, hjx⟩ : ∃ j, j = at0 + k := ⟨_, rfl⟩
      rw [← hjx] at hb
      refine Tr.region ?_
      refine Tr.val (V.move rfl) rfl ?_
      refine Tr.val (V.move rfl) rfl ?_
      refine Tr.val (V.add rfl rfl (by omega)) rfl ?_
      refine Tr.val (V.assign rfl) rfl ?_
      refine Tr.lNil ?_
      refine Tr.thenN ?_
      refine Tr.region ?_
      refine Tr.val (V.move rfl) rfl ?_
      refine Tr.val (V.shl64 (s := 8) rfl rfl) rfl ?_
      refine Tr.val (V.move rfl) rfl ?_
      refine Tr.val (V.move rfl) rfl ?_
      refine Tr.val (V.idxS (j := jx) Try.runUnderlying29 Try.sizeOf5 rfl rfl (by omega) (by omega) hp) rfl ?_
      refine Tr.val (V.load1 Try.isAgg5 rfl (V.cellR hrd (by rw [List.getElem?_map, hb]; rfl))) rfl ?_
      refine Tr.val (V.conv8_64 Try.runUnderlying5 Try.runUnderlying38 rfl) rfl ?_
      refine Tr.val (V.or64 rfl rfl) rfl ?_
      refine Tr.val (V.assign rfl) rfl ?_
      refine Tr.lNil ?_
      refine Tr.inN ?_
      refine Tr.thenN ?_
      refine Tr.region ?_
      refine Tr.val (V.add rfl rfl (by omega)) rfl ?_
      refine Tr.val (V.move rfl) rfl ?_
      refine Tr.lNil ?_
      exact Tr.again (k + 1) (by omega) (by omega) (lk_cons rfl (lk_cons rfl (lk_cons rfl (lk_cons rfl (lk_cons (by rw [hstep]; rfl) (lk_cons rfl (lk_cons rfl (lk_nil _)))))))) (List.Sublist.refl _)
    · obtain rfl : big = false := hF2
      have hlt : k < size := by omega
      obtain ⟨b, hb⟩ : ∃ b, xs[at0 + size - 1 - k]? = some b := ⟨_, List.getElem?_eq_getElem (by omega)⟩
      have hstep := ord_F (xs := xs) (at0 := at0) (size := size) (by omega) hlt hb
      obtain ⟨jx, hjx⟩ : ∃ j, j = at0 + size - 1 - k := ⟨_, rfl⟩
      rw [← hjx] at hb
      refine Tr.skip ?_
      refine Tr.thenN ?_
      refine Tr.region ?_
      refine Tr.val (V.move rfl) rfl ?_
      refine Tr.val (V.shl64 (s := 8) rfl rfl) rfl ?_
      refine Tr.val (V.move rfl) rfl ?_
      refine Tr.val (V.move rfl) rfl ?_
      refine Tr.val (V.idxS (j := jx) Try.runUnderlying29 Try.sizeOf5 rfl rfl (by omega) (by omega) hp) rfl ?_
      refine Tr.val (V.load1 Try.isAgg5 rfl (V.cellR hrd (by rw [List.getElem?_map, hb]; rfl))) rfl ?_
      refine Tr.val (V.conv8_64 Try.runUnderlying5 Try.runUnderlying38 rfl) rfl ?_
      refine Tr.val (V.or64 rfl rfl) rfl ?_
      refine Tr.val (V.assign rfl) rfl ?_
      refine Tr.lNil ?_
      refine Tr.inN ?_
      refine Tr.thenN ?_
      refine Tr.region ?_
      refine Tr.val (V.add rfl rfl (by omega)) rfl ?_
      refine Tr.val (V.move rfl) rfl ?_
      refine Tr.lNil ?_
      exact Tr.again (k + 1) (by omega) (by omega) (lk_cons rfl (lk_cons rfl (lk_cons rfl (lk_cons rfl (lk_cons (by rw [hstep]; rfl) (lk_cons rfl (lk_cons rfl (lk_nil _)))))))) (List.Sublist.refl _)
  · simp only [decide_eq_false_iff_not] at hF1
    refine Tr.exit ?_
    refine Tr.thenX ?_
    refine Tr.thenX ?_
    refine Tr.inHit ?_
    refine Tr.thenN ?_
    refine Tr.seq ?_
    refine Tr.region ?_
    refine Tr.val (V.move rfl) rfl ?_
    refine Tr.val (V.assign rfl) rfl ?_
    refine Tr.val (V.assign rfl) rfl ?_
    refine Tr.lNil ?_
    refine Tr.thenN ?_
    refine Tr.ret ?_
    refine Tr.out2 rfl (Res.tmp rfl) (Res.tmp rfl) fun w hw => ?_
    have hk' : k = size := by omega
    subst hk'
    exact ⟨by rw [getW_full (by omega)], hw⟩

end Go.Proofs.Ytgkndcincgpmdaa
