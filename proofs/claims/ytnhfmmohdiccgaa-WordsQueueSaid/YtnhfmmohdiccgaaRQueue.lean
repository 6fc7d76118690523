/-
  hatchwaylaw01.WordsQueue returns true, whatever its arguments. (Printed by a program of this session over its walk printer.)
-/
import Derived.Test.YtnhfmmohdiccgaaChecked
import Derived.Test.YtnhfmmohdiccgaaRows
import Derived.Test.YtnhfmmohdiccgaaQueueC
import Derived.Test.YtnhfmmohdiccgaaShown1
import Derived.Test.YtnhfmmohdiccgaaFrame
namespace Go.Proofs.Ytnhfmmohdiccgaa
open Go.Sym Plain
set_option linter.unusedVariables false
set_option maxRecDepth 20000

set_option maxHeartbeats 4000000 in
theorem wordsQueue_run (i0 : Int) (p : Option Addr) (m c : Nat) (xs : List Int) (w : World) (hr : RdB w p (xs.map IV)) (hl : xs.length = m) (hmc : m ≤ c) (hc : c ≤ 9223372036854775807) :
    Calls Try.prog 11 [.int .i64 i0, .slice p m c].toArray w fun r w' => r = .returned (.bool true) ∧ Hp w [] [] w' := by
  obtain ⟨R0, hR0⟩ : ∃ R0 : Int, R0 = if (40 : Int) < i0 then 40 else i0 := ⟨_, rfl⟩
  have hR40 : R0 ≤ 40 := by rw [hR0]; split <;> omega
  obtain ⟨ρ, hρ⟩ : ∃ ρ, ρ = effR R0 := ⟨_, rfl⟩
  have hρ2 : ρ = if R0 < 0 then 0 else R0 := by rw [hρ, effR, if_neg (by split <;> omega)]
  have hρ3 : (0 ≤ R0 ∧ ρ = R0) ∨ (R0 < 0 ∧ ρ = 0) := by
    by_cases h : R0 < 0
    · exact .inr ⟨h, by rw [hρ2, if_pos h]⟩
    · exact .inl ⟨by omega, by rw [hρ2, if_neg h]⟩
  have hp : 0 < m → p.isSome = true := fun h => (hr 0 _ (List.getElem?_eq_getElem (by rw [List.length_map]; omega))).1
  refine Tr.enterM Try.func11 rfl Try.ntmps11 rfl (Hp.refl w) ?_
  refine Tr.seq ?_
  refine Tr.region ?_
  refine Tr.op (W.alloc (cs := [.bool false]) Try.zeroValue4 rfl rfl fun g4 => ?_)
  refine Tr.lNil ?_
  refine Tr.thenN ?_
  refine Tr.seq ?_
  refine Tr.region ?_
  refine Tr.op (W.call1 (args0) Try.call18 rfl (fun w1 _ => shown_true w1) ?_)
  refine Tr.val (V.assign rfl) rfl ?_
  refine Tr.lNil ?_
  refine Tr.thenN ?_
  refine Tr.seq ?_
  refine Tr.region ?_
  refine Tr.val (V.move rfl) rfl ?_
  refine Tr.val ((V.min (z := R0) rfl rfl hR0.symm)) rfl ?_
  refine Tr.val (V.assign rfl) rfl ?_
  refine Tr.lNil ?_
  refine Tr.thenN ?_
  refine Tr.seq ?_
  refine Tr.region ?_
  refine Tr.val (V.move rfl) rfl ?_
  refine Tr.op (W.call (val := fun q : Nat => .pointer (some ⟨q, 0, none⟩)) (N := fun q => [QB q none 0 0 ρ]) (Px := fun _ => True)  (args1 rfl) Try.call30 rfl (fun w1 hw1 => by have h := newq_any R0 w1; rw [← hρ] at h; exact h) fun q _ => ?_)
  refine Tr.val (V.assign rfl) rfl ?_
  refine Tr.lNil ?_
  refine Tr.thenN ?_
  refine Tr.seq ?_
  refine Tr.seq ?_
  refine Tr.region ?_
  refine Tr.val (V.move rfl) rfl ?_
  refine Tr.val (V.eqlPtr Try.runUnderlying41 rfl rfl) rfl ?_
  refine Tr.lNil ?_
  refine Tr.thenN ?_
  refine Tr.condF rfl ?_
  refine Tr.skip ?_
  refine Tr.thenN ?_
  refine Tr.seq ?_
  refine Tr.region ?_
  refine Tr.op (W.alloc (cs := [.slice none 0 0]) Try.zeroValue40 rfl rfl fun g7 => ?_)
  refine Tr.lNil ?_
  refine Tr.thenN ?_
  refine Tr.seq ?_
  refine Tr.seq ?_
  refine Tr.region ?_
  refine Tr.val (V.assign rfl) rfl ?_
  refine Tr.lNil ?_
  refine Tr.thenN ?_
  refine Tr.block ?_
  refine Tr.loop (ι := Nat × List Int × Row × ORow) (fun x => x.1 ≤ 200 ∧ x.1 ≤ m ∧ (x.2.1.length : Int) ≤ ρ ∧ x.2.2.1.ok (x.2.1.map IV) ∧ x.2.2.2.ok (x.2.1.map IV)) (fun x => [(0, IV R0), (1, .slice p m c), (4, .pointer (some ⟨g4, 0, none⟩)), (5, .bool true), (6, .pointer (some ⟨q, 0, none⟩)), (7, .pointer (some ⟨g7, 0, none⟩)), (8, .int .i64 (x.1 : Int))]) (fun x => ⟨g7, 40, [x.2.2.2.val x.2.1.length]⟩ :: QBr q x.2.2.1 x.2.1.length ρ :: (x.2.2.1.blk 3 (x.2.1.map IV) ++ (x.2.2.2.blk 3 (x.2.1.map IV) ++ [⟨g4, 4, [.bool false]⟩]))) (fun x => 200 - x.1) (0, [], none, none) ⟨by simp only; omega, by simp only; omega, by simp only [List.length_nil]; omega, rfl, rfl⟩ (lk_cons rfl (lk_cons rfl (lk_cons rfl (lk_cons rfl (lk_cons rfl (lk_cons rfl (lk_cons rfl (lk_nil _)))))))) (List.Sublist.refl _) fun x hI => ?_
  obtain ⟨i, os, qr, o⟩ := x
  obtain ⟨hi1, hi2, hos, hqo, hoo⟩ := hI
  simp only at hi1 hi2 hos hqo hoo ⊢
  obtain ⟨po, co, hv, hco, hps, hrd, htl⟩ := o.slice (os.map IV) hoo
  rw [List.length_map] at hv hco hps
  have hos40 : os.length ≤ 40 := by omega
  rw [hv]
  have h5 : (∃ v, i < m ∧ i < 200 ∧ xs[i]? = some v ∧ 0 ≤ v ∧ (os.length : Int) ≠ ρ) ∨ (∃ v, i < m ∧ i < 200 ∧ xs[i]? = some v ∧ 0 ≤ v ∧ (os.length : Int) = ρ) ∨ (∃ v, i < m ∧ i < 200 ∧ xs[i]? = some v ∧ v < 0 ∧ os = []) ∨ (∃ v u r, i < m ∧ i < 200 ∧ xs[i]? = some v ∧ v < 0 ∧ os = u :: r) ∨ (i < m ∧ 200 ≤ i) ∨ m ≤ i := by
    rcases Nat.lt_or_ge i m with h | h
    · rcases Nat.lt_or_ge i 200 with h2 | h2
      · obtain ⟨v, hvx⟩ : ∃ v, xs[i]? = some v := ⟨_, List.getElem?_eq_getElem (by omega)⟩
        by_cases h3 : 0 ≤ v
        · by_cases h4 : (os.length : Int) = ρ
          · exact .inr (.inl ⟨v, h, h2, hvx, h3, h4⟩)
          · exact .inl ⟨v, h, h2, hvx, h3, h4⟩
        · match os with
          | [] => exact .inr (.inr (.inl ⟨v, h, h2, hvx, by omega, rfl⟩))
          | u :: r => exact .inr (.inr (.inr (.inl ⟨v, u, r, h, h2, hvx, by omega, rfl⟩)))
      · exact .inr (.inr (.inr (.inr (.inl ⟨h, h2⟩))))
    · exact .inr (.inr (.inr (.inr (.inr h))))
  rcases h5 with ⟨v, him, hi200, hxv, hv0, hne⟩ | ⟨v, him, hi200, hxv, hv0, hne⟩ | ⟨v, him, hi200, hxv, hv0, rfl⟩ | ⟨v, u, r, him, hi200, hxv, hv0, rfl⟩ | ⟨him, hi200⟩ | him
  · refine Tr.seq ?_
    refine Tr.seq ?_
    refine Tr.region ?_
    refine Tr.val (V.move rfl) rfl ?_
    refine Tr.val (V.move rfl) rfl ?_
    refine Tr.val (V.len Try.runUnderlying40 rfl) rfl ?_
    refine Tr.val (V.lss (b := true) rfl rfl (decide_eq_true (by omega))) rfl ?_
    refine Tr.val (V.move rfl) rfl ?_
    refine Tr.valG rfl (V.move rfl) rfl ?_
    refine Tr.valG rfl (V.lss (b := true) rfl rfl (decide_eq_true (by omega))) rfl ?_
    refine Tr.val (V.pick rfl rfl) rfl ?_
    refine Tr.lNil ?_
    refine Tr.thenN ?_
    refine Tr.condT rfl ?_
    refine Tr.skip ?_
    refine Tr.thenN ?_
    refine Tr.seq ?_
    refine Tr.block ?_
    refine Tr.seq ?_
    refine Tr.seq ?_
    refine Tr.region ?_
    refine Tr.val (V.move rfl) rfl ?_
    refine Tr.val (V.move rfl) rfl ?_
    refine Tr.val (V.idxS (j := i) Try.runUnderlying40 Try.sizeOf3 rfl rfl (by omega) (by omega) (hp (by omega))) rfl ?_
    refine Tr.val (V.load1 Try.isAgg3 rfl (V.cellR (RdP.old hr (fun _ _ => by simp)) (by rw [List.getElem?_map, hxv]; rfl))) rfl ?_
    refine Tr.val (V.geq (b := true) rfl rfl (decide_eq_true (by omega))) rfl ?_
    refine Tr.lNil ?_
    refine Tr.thenN ?_
    refine Tr.condT rfl ?_
    refine Tr.seq ?_
    refine Tr.region ?_
    refine Tr.val (V.move rfl) rfl ?_
    refine Tr.val (V.move rfl) rfl ?_
    refine Tr.val (V.move rfl) rfl ?_
    refine Tr.val (V.idxS (j := i) Try.runUnderlying40 Try.sizeOf3 rfl rfl (by omega) (by omega) (hp (by omega))) rfl ?_
    refine Tr.val (V.load1 Try.isAgg3 rfl (V.cellR (RdP.old hr (fun _ _ => by simp)) (by rw [List.getElem?_map, hxv]; rfl))) rfl ?_
    refine Tr.op (W.callX (X := QBr q qr os.length ρ :: qr.blk 3 (os.map IV)) (val := fun _ : Row => .bool true) (Y := fun qr2 => QBr q qr2 (os.length + 1) ρ :: qr2.blk 3 ((os ++ [v]).map IV)) (Px := fun qr2 => qr2.ok ((os ++ [v]).map IV))  (args2 rfl rfl) Try.call31 rfl (perm_mid _ _ _ _) (fun w1 hx _ => push_row q qr os ρ v w1 hqo (by omega) (fun h => hne h.symm) hx) fun qr2 hq2 => Tr.permS (L' := ⟨g7, 40, [.slice po os.length co]⟩ :: QBr q qr2 (os.length + 1) ρ :: (qr2.blk 3 ((os ++ [v]).map IV) ++ (o.blk 3 (os.map IV) ++ [⟨g4, 4, [.bool false]⟩]))) (perm_mid _ _ _ _).symm ?_)
    refine Tr.val (V.assign rfl) rfl ?_
    refine Tr.lNil ?_
    refine Tr.thenN ?_
    refine Tr.seq ?_
    refine Tr.seq ?_
    refine Tr.region ?_
    refine Tr.val (V.move rfl) rfl ?_
    refine Tr.val (V.load1 Try.isAgg40 rfl (V.cellB (by repeat (first | exact List.Mem.head _ | apply List.Mem.tail)) rfl)) rfl ?_
    refine Tr.val (V.len Try.runUnderlying40 rfl) rfl ?_
    refine Tr.val (V.move rfl) rfl ?_
    refine Tr.val (V.lss (b := true) rfl rfl (decide_eq_true (by omega))) rfl ?_
    refine Tr.val (V.neqBb (b := false) Try.runUnderlying4 rfl rfl rfl) rfl ?_
    refine Tr.lNil ?_
    refine Tr.thenN ?_
    refine Tr.condF rfl ?_
    refine Tr.skip ?_
    refine Tr.thenN ?_
    refine Tr.seq ?_
    refine Tr.region ?_
    refine Tr.val (V.move rfl) rfl ?_
    refine Tr.lNil ?_
    refine Tr.thenN ?_
    refine Tr.condT rfl ?_
    refine Tr.regionD [0, 0, 0, 6, 14, 30, 63, 127] [6, 7] (.soft 0 (.pure 1 (.pure 2 (.pure 3 (.soft 4 (.hard 5 (.hard 6 (.hard 7 .done)))))))) mixed (by kernel_rfl) ?_
    refine TrP.soft rfl (V.load1 Try.isAgg40 rfl (V.cellB (by repeat (first | exact List.Mem.head _ | apply List.Mem.tail)) rfl)) rfl ?_
    refine TrP.pure rfl (fun _ => V.move rfl) rfl ?_
    refine TrP.pure rfl (fun _ => V.move rfl) rfl ?_
    refine TrP.pure rfl (fun _ => V.idxS (j := i) Try.runUnderlying40 Try.sizeOf3 rfl rfl (by omega) (by omega) (hp (by omega))) rfl ?_
    refine TrP.soft rfl (V.load1 Try.isAgg3 rfl (V.cellR (RdP.old hr (fun _ _ => by simp)) (by rw [List.getElem?_map, hxv]; rfl))) rfl ?_
    refine TrP.hard rfl (W.build (vs := [IV v]) elem40 (W.parts1 rfl) rfl (by simp [Value.cells]) (by omega) rfl fun g54 => ?_)
    refine Tr.pOn (by first | exact List.Sublist.refl _ | exact List.sublist_cons_self _ _ | exact List.sublist_append_right _ _ | simp) ?_
    refine TrP.hard rfl (W.appendOR (k := os.length) (v := IV v) (xs := os.map IV) (o := o) elem40 (by rw [← hv]; rfl) rfl (RdP.blk (cs := [IV v]) (List.Mem.head _) 0 1) rfl hoo (by rw [List.length_map]) (perm_own _ _ _ _ _ _) (by omega) (by omega) rfl fun o2 ho2 => Tr.permS (L' := ⟨g54, 3, [IV v]⟩ :: ⟨g7, 40, [.slice po os.length co]⟩ :: QBr q qr2 (os.length + 1) ρ :: (qr2.blk 3 ((os ++ [v]).map IV) ++ (o2.blk 3 (os.map IV ++ [IV v]) ++ [⟨g4, 4, [.bool false]⟩]))) (perm_own _ _ _ _ _ _).symm ?_)
    refine Tr.pTail rfl ?_
    refine TrP.hard rfl (W.store1E (cs := [.slice po os.length co]) (v := o2.val (os.length + 1)) (cs' := [o2.val (os.length + 1)]) Try.sizeOf40 rfl rfl (o2.cells _) (o2.one _) rfl (by repeat (first | exact Upd.head | apply Upd.tail)) (by simp) ?_)
    refine Tr.pTail rfl ?_
    rw [show os.map IV ++ [IV v] = (os ++ [v]).map IV by rw [List.map_append]; rfl] at ho2 ⊢
    obtain ⟨po2, co2, hv2, -⟩ := o2.slice ((os ++ [v]).map IV) ho2
    rw [List.length_map, List.length_append, List.length_singleton] at hv2
    rw [hv2]
    refine TrP.done ?_
    refine Tr.thenN ?_
    refine Tr.seq ?_
    refine Tr.regionD [0, 1, 0, 4, 15, 31, 63, 127, 255, 511] [] (.pure 0 (.soft 1 (.soft 2 (.pure 3 (.pure 4 (.pure 5 (.pure 6 (.hard 7 (.pure 8 (.pure 9 .done)))))))))) mixed (by kernel_rfl) ?_
    refine TrP.pure rfl (fun _ => V.move rfl) rfl ?_
    refine TrP.call rfl (args1 rfl) Try.call33 rfl (fun w1 hw1 => by have hn : (os ++ [v]).length = os.length + 1 := (by simp); have h := qlen_row q qr2 (os ++ [v]) ρ w1 hq2 (by rw [hn]; exact Hp.again (L := [QBr q qr2 (os.length + 1) ρ]) (fun y hy => by rw [List.mem_singleton.1 hy]; exact hw1.lies _ (by repeat (first | exact List.Mem.head _ | apply List.Mem.tail))) (by simp)); rw [hn] at h; exact h) ?_
    refine TrP.soft rfl (V.load1 Try.isAgg40 rfl (V.cellB (by repeat (first | exact List.Mem.head _ | apply List.Mem.tail)) rfl)) rfl ?_
    refine TrP.pure rfl (fun _ => V.len Try.runUnderlying40 rfl) rfl ?_
    refine TrP.pure rfl (fun _ => V.neq (b := false) rfl rfl (decide_eq_false (by simp))) rfl ?_
    refine TrP.pure rfl (fun _ => V.move rfl) rfl ?_
    refine TrP.pureG rfl rfl (fun _ => V.move rfl) rfl ?_
    refine TrP.hardG rfl rfl (W.call (val := fun b : Nat => .func (.func 43) #[] #[.pointer (some ⟨b, 0, none⟩)]) (N := fun b => [⟨b, 41, [.pointer (some ⟨q, 0, none⟩)]⟩]) (Px := fun _ => True)  (args1 rfl) Try.call34 rfl (fun w1 hw1 => qall_any q w1) fun g94 _ => ?_)
    refine Tr.pOn (by first | exact List.Sublist.refl _ | exact List.sublist_cons_self _ _ | exact List.sublist_append_right _ _ | simp) ?_
    refine TrP.pureG rfl rfl (fun _ => V.eqlFunc Try.runUnderlying48 rfl rfl) rfl ?_
    refine TrP.pure rfl (fun _ => V.pick rfl rfl) rfl ?_
    refine TrP.done ?_
    refine Tr.thenN ?_
    refine Tr.condF rfl ?_
    refine Tr.skip ?_
    refine Tr.inN ?_
    refine Tr.thenN ?_
    refine Tr.region ?_
    refine Tr.val (V.move rfl) rfl ?_
    refine Tr.val (V.add rfl rfl (by omega)) rfl ?_
    refine Tr.val (V.assign rfl) rfl ?_
    refine Tr.lNil ?_
    exact Tr.again (i + 1, os ++ [v], qr2, o2) ⟨by simp only; omega, by simp only; omega, by simp only [List.length_append, List.length_singleton]; omega, hq2, ho2⟩ (by simp only; omega) (lk_cons rfl (lk_cons rfl (lk_cons rfl (lk_cons rfl (lk_cons rfl (lk_cons rfl (lk_cons (congrArg some (congrArg (Value.int .i64) (by simp only; omega))) (lk_nil _)))))))) (by simp only [List.length_append, List.length_singleton]; rw [hv2]; exact .cons _ (.cons _ (List.Sublist.refl _)))
  · refine Tr.seq ?_
    refine Tr.seq ?_
    refine Tr.region ?_
    refine Tr.val (V.move rfl) rfl ?_
    refine Tr.val (V.move rfl) rfl ?_
    refine Tr.val (V.len Try.runUnderlying40 rfl) rfl ?_
    refine Tr.val (V.lss (b := true) rfl rfl (decide_eq_true (by omega))) rfl ?_
    refine Tr.val (V.move rfl) rfl ?_
    refine Tr.valG rfl (V.move rfl) rfl ?_
    refine Tr.valG rfl (V.lss (b := true) rfl rfl (decide_eq_true (by omega))) rfl ?_
    refine Tr.val (V.pick rfl rfl) rfl ?_
    refine Tr.lNil ?_
    refine Tr.thenN ?_
    refine Tr.condT rfl ?_
    refine Tr.skip ?_
    refine Tr.thenN ?_
    refine Tr.seq ?_
    refine Tr.block ?_
    refine Tr.seq ?_
    refine Tr.seq ?_
    refine Tr.region ?_
    refine Tr.val (V.move rfl) rfl ?_
    refine Tr.val (V.move rfl) rfl ?_
    refine Tr.val (V.idxS (j := i) Try.runUnderlying40 Try.sizeOf3 rfl rfl (by omega) (by omega) (hp (by omega))) rfl ?_
    refine Tr.val (V.load1 Try.isAgg3 rfl (V.cellR (RdP.old hr (fun _ _ => by simp)) (by rw [List.getElem?_map, hxv]; rfl))) rfl ?_
    refine Tr.val (V.geq (b := true) rfl rfl (decide_eq_true (by omega))) rfl ?_
    refine Tr.lNil ?_
    refine Tr.thenN ?_
    refine Tr.condT rfl ?_
    refine Tr.seq ?_
    refine Tr.region ?_
    refine Tr.val (V.move rfl) rfl ?_
    refine Tr.val (V.move rfl) rfl ?_
    refine Tr.val (V.move rfl) rfl ?_
    refine Tr.val (V.idxS (j := i) Try.runUnderlying40 Try.sizeOf3 rfl rfl (by omega) (by omega) (hp (by omega))) rfl ?_
    refine Tr.val (V.load1 Try.isAgg3 rfl (V.cellR (RdP.old hr (fun _ _ => by simp)) (by rw [List.getElem?_map, hxv]; rfl))) rfl ?_
    refine Tr.op (W.callX (X := [QBr q qr os.length ρ]) (val := fun _ : Unit => .bool false) (Y := fun _ => [QBr q qr os.length ρ]) (Px := fun _ => True)  (args2 rfl rfl) Try.call31 rfl (perm_one _ _ _).symm (fun w1 hx _ => by
      rw [← hne] at hx ⊢
      exact (push_row_full q qr os v w1 hqo hx).mono fun _ _ h => ⟨(), h.1, h.2, trivial⟩) fun _ _ => Tr.permS (L' := ⟨g7, 40, [.slice po os.length co]⟩ :: QBr q qr os.length ρ :: (qr.blk 3 (os.map IV) ++ (o.blk 3 (os.map IV) ++ [⟨g4, 4, [.bool false]⟩]))) (perm_one _ _ _) ?_)
    refine Tr.val (V.assign rfl) rfl ?_
    refine Tr.lNil ?_
    refine Tr.thenN ?_
    refine Tr.seq ?_
    refine Tr.seq ?_
    refine Tr.region ?_
    refine Tr.val (V.move rfl) rfl ?_
    refine Tr.val (V.load1 Try.isAgg40 rfl (V.cellB (by repeat (first | exact List.Mem.head _ | apply List.Mem.tail)) rfl)) rfl ?_
    refine Tr.val (V.len Try.runUnderlying40 rfl) rfl ?_
    refine Tr.val (V.move rfl) rfl ?_
    refine Tr.val (V.lss (b := false) rfl rfl (decide_eq_false (by omega))) rfl ?_
    refine Tr.val (V.neqBb (b := false) Try.runUnderlying4 rfl rfl rfl) rfl ?_
    refine Tr.lNil ?_
    refine Tr.thenN ?_
    refine Tr.condF rfl ?_
    refine Tr.skip ?_
    refine Tr.thenN ?_
    refine Tr.seq ?_
    refine Tr.region ?_
    refine Tr.val (V.move rfl) rfl ?_
    refine Tr.lNil ?_
    refine Tr.thenN ?_
    refine Tr.condF rfl ?_
    refine Tr.skip ?_
    refine Tr.thenN ?_
    refine Tr.seq ?_
    refine Tr.regionD [0, 1, 0, 4, 15, 31, 63, 127, 255, 511] [] (.pure 0 (.soft 1 (.soft 2 (.pure 3 (.pure 4 (.pure 5 (.pure 6 (.hard 7 (.pure 8 (.pure 9 .done)))))))))) mixed (by kernel_rfl) ?_
    refine TrP.pure rfl (fun _ => V.move rfl) rfl ?_
    refine TrP.call rfl (args1 rfl) Try.call33 rfl (fun w1 hw1 => by have hn : (os).length = os.length := (by simp); have h := qlen_row q qr (os) ρ w1 hqo (by rw [hn]; exact Hp.again (L := [QBr q qr (os.length) ρ]) (fun y hy => by rw [List.mem_singleton.1 hy]; exact hw1.lies _ (by repeat (first | exact List.Mem.head _ | apply List.Mem.tail))) (by simp)); rw [hn] at h; exact h) ?_
    refine TrP.soft rfl (V.load1 Try.isAgg40 rfl (V.cellB (by repeat (first | exact List.Mem.head _ | apply List.Mem.tail)) rfl)) rfl ?_
    refine TrP.pure rfl (fun _ => V.len Try.runUnderlying40 rfl) rfl ?_
    refine TrP.pure rfl (fun _ => V.neq (b := false) rfl rfl (decide_eq_false (by simp))) rfl ?_
    refine TrP.pure rfl (fun _ => V.move rfl) rfl ?_
    refine TrP.pureG rfl rfl (fun _ => V.move rfl) rfl ?_
    refine TrP.hardG rfl rfl (W.call (val := fun b : Nat => .func (.func 43) #[] #[.pointer (some ⟨b, 0, none⟩)]) (N := fun b => [⟨b, 41, [.pointer (some ⟨q, 0, none⟩)]⟩]) (Px := fun _ => True)  (args1 rfl) Try.call34 rfl (fun w1 hw1 => qall_any q w1) fun g94 _ => ?_)
    refine Tr.pOn (by first | exact List.Sublist.refl _ | exact List.sublist_cons_self _ _ | exact List.sublist_append_right _ _ | simp) ?_
    refine TrP.pureG rfl rfl (fun _ => V.eqlFunc Try.runUnderlying48 rfl rfl) rfl ?_
    refine TrP.pure rfl (fun _ => V.pick rfl rfl) rfl ?_
    refine TrP.done ?_
    refine Tr.thenN ?_
    refine Tr.condF rfl ?_
    refine Tr.skip ?_
    refine Tr.inN ?_
    refine Tr.thenN ?_
    refine Tr.region ?_
    refine Tr.val (V.move rfl) rfl ?_
    refine Tr.val (V.add rfl rfl (by omega)) rfl ?_
    refine Tr.val (V.assign rfl) rfl ?_
    refine Tr.lNil ?_
    exact Tr.again (i + 1, os, qr, o) ⟨by simp only; omega, by simp only; omega, hos, hqo, hoo⟩ (by simp only; omega) (lk_cons rfl (lk_cons rfl (lk_cons rfl (lk_cons rfl (lk_cons rfl (lk_cons rfl (lk_cons (congrArg some (congrArg (Value.int .i64) (by simp only; omega))) (lk_nil _)))))))) (by simp only; rw [hv]; exact .cons _ (List.Sublist.refl _))
  · refine Tr.seq ?_
    refine Tr.seq ?_
    refine Tr.region ?_
    refine Tr.val (V.move rfl) rfl ?_
    refine Tr.val (V.move rfl) rfl ?_
    refine Tr.val (V.len Try.runUnderlying40 rfl) rfl ?_
    refine Tr.val (V.lss (b := true) rfl rfl (decide_eq_true (by omega))) rfl ?_
    refine Tr.val (V.move rfl) rfl ?_
    refine Tr.valG rfl (V.move rfl) rfl ?_
    refine Tr.valG rfl (V.lss (b := true) rfl rfl (decide_eq_true (by omega))) rfl ?_
    refine Tr.val (V.pick rfl rfl) rfl ?_
    refine Tr.lNil ?_
    refine Tr.thenN ?_
    refine Tr.condT rfl ?_
    refine Tr.skip ?_
    refine Tr.thenN ?_
    refine Tr.seq ?_
    refine Tr.block ?_
    refine Tr.seq ?_
    refine Tr.seq ?_
    refine Tr.region ?_
    refine Tr.val (V.move rfl) rfl ?_
    refine Tr.val (V.move rfl) rfl ?_
    refine Tr.val (V.idxS (j := i) Try.runUnderlying40 Try.sizeOf3 rfl rfl (by omega) (by omega) (hp (by omega))) rfl ?_
    refine Tr.val (V.load1 Try.isAgg3 rfl (V.cellR (RdP.old hr (fun _ _ => by simp)) (by rw [List.getElem?_map, hxv]; rfl))) rfl ?_
    refine Tr.val (V.geq (b := false) rfl rfl (decide_eq_false (by omega))) rfl ?_
    refine Tr.lNil ?_
    refine Tr.thenN ?_
    refine Tr.condF rfl ?_
    refine Tr.seq ?_
    refine Tr.region ?_
    refine Tr.val (V.move rfl) rfl ?_
    refine Tr.op (W.callX (X := [QBr q qr 0 ρ]) (val := fun _ : Unit => .tuple #[IV 0, .bool false]) (Y := fun _ => [QBr q qr 0 ρ]) (Px := fun _ => True)  (args1 rfl) Try.call32 rfl (perm_one _ _ _).symm (fun w1 hx _ => (pop_row_empty q qr ρ w1 hqo hx).mono fun _ _ h => ⟨(), h.1, h.2, trivial⟩) fun _ _ => Tr.permS (L' := ⟨g7, 40, [.slice po 0 co]⟩ :: QBr q qr 0 ρ :: (qr.blk 3 (([] : List Int).map IV) ++ (o.blk 3 (([] : List Int).map IV) ++ [⟨g4, 4, [.bool false]⟩]))) (perm_one _ _ _) ?_)
    refine Tr.val (V.move rfl) rfl ?_
    refine Tr.val (V.extract rfl rfl) rfl ?_
    refine Tr.val (V.extract rfl rfl) rfl ?_
    refine Tr.val (V.assign rfl) rfl ?_
    refine Tr.val (V.assign rfl) rfl ?_
    refine Tr.lNil ?_
    refine Tr.thenN ?_
    refine Tr.seq ?_
    refine Tr.seq ?_
    refine Tr.region ?_
    refine Tr.val (V.move rfl) rfl ?_
    refine Tr.val (V.load1 Try.isAgg40 rfl (V.cellB (by repeat (first | exact List.Mem.head _ | apply List.Mem.tail)) rfl)) rfl ?_
    refine Tr.val (V.len Try.runUnderlying40 rfl) rfl ?_
    refine Tr.val (V.gtr (b := false) rfl rfl (decide_eq_false (by simp))) rfl ?_
    refine Tr.val (V.neqBb (b := false) Try.runUnderlying4 rfl rfl rfl) rfl ?_
    refine Tr.val (V.move rfl) rfl ?_
    refine Tr.valG rfl (V.move rfl) rfl ?_
    refine Tr.valG rfl (V.not rfl) rfl ?_
    refine Tr.valG rfl (V.move rfl) rfl ?_
    refine Tr.valG rfl (V.move rfl) rfl ?_
    refine Tr.valG rfl (V.neq (b := false) rfl rfl (decide_eq_false (by simp))) rfl ?_
    refine Tr.valG rfl (V.pick rfl rfl) rfl ?_
    refine Tr.val (V.pick rfl rfl) rfl ?_
    refine Tr.val (V.move rfl) rfl ?_
    refine Tr.valG rfl (V.move rfl) rfl ?_
    refine Tr.valG rfl (V.move rfl) rfl ?_
    refine Tr.skipG rfl rfl rfl ?_
    refine Tr.skipG rfl rfl rfl ?_
    refine Tr.skipG rfl rfl rfl ?_
    refine Tr.skipG rfl rfl rfl ?_
    refine Tr.skipG rfl rfl rfl ?_
    refine Tr.valG rfl (V.pick rfl rfl) rfl ?_
    refine Tr.val (V.pick rfl rfl) rfl ?_
    refine Tr.lNil ?_
    refine Tr.thenN ?_
    refine Tr.condF rfl ?_
    refine Tr.skip ?_
    refine Tr.thenN ?_
    refine Tr.seq ?_
    refine Tr.region ?_
    refine Tr.val (V.move rfl) rfl ?_
    refine Tr.lNil ?_
    refine Tr.thenN ?_
    refine Tr.condF rfl ?_
    refine Tr.skip ?_
    refine Tr.thenN ?_
    refine Tr.seq ?_
    refine Tr.regionD [0, 1, 0, 4, 15, 31, 63, 127, 255, 511] [] (.pure 0 (.soft 1 (.soft 2 (.pure 3 (.pure 4 (.pure 5 (.pure 6 (.hard 7 (.pure 8 (.pure 9 .done)))))))))) mixed (by kernel_rfl) ?_
    refine TrP.pure rfl (fun _ => V.move rfl) rfl ?_
    refine TrP.call rfl (args1 rfl) Try.call33 rfl (fun w1 hw1 => by have hn : (([] : List Int)).length = 0 := (by simp); have h := qlen_row q qr (([] : List Int)) ρ w1 hqo (by rw [hn]; exact Hp.again (L := [QBr q qr (0) ρ]) (fun y hy => by rw [List.mem_singleton.1 hy]; exact hw1.lies _ (by repeat (first | exact List.Mem.head _ | apply List.Mem.tail))) (by simp)); rw [hn] at h; exact h) ?_
    refine TrP.soft rfl (V.load1 Try.isAgg40 rfl (V.cellB (by repeat (first | exact List.Mem.head _ | apply List.Mem.tail)) rfl)) rfl ?_
    refine TrP.pure rfl (fun _ => V.len Try.runUnderlying40 rfl) rfl ?_
    refine TrP.pure rfl (fun _ => V.neq (b := false) rfl rfl (decide_eq_false (by simp))) rfl ?_
    refine TrP.pure rfl (fun _ => V.move rfl) rfl ?_
    refine TrP.pureG rfl rfl (fun _ => V.move rfl) rfl ?_
    refine TrP.hardG rfl rfl (W.call (val := fun b : Nat => .func (.func 43) #[] #[.pointer (some ⟨b, 0, none⟩)]) (N := fun b => [⟨b, 41, [.pointer (some ⟨q, 0, none⟩)]⟩]) (Px := fun _ => True)  (args1 rfl) Try.call34 rfl (fun w1 hw1 => qall_any q w1) fun g94 _ => ?_)
    refine Tr.pOn (by first | exact List.Sublist.refl _ | exact List.sublist_cons_self _ _ | exact List.sublist_append_right _ _ | simp) ?_
    refine TrP.pureG rfl rfl (fun _ => V.eqlFunc Try.runUnderlying48 rfl rfl) rfl ?_
    refine TrP.pure rfl (fun _ => V.pick rfl rfl) rfl ?_
    refine TrP.done ?_
    refine Tr.thenN ?_
    refine Tr.condF rfl ?_
    refine Tr.skip ?_
    refine Tr.inN ?_
    refine Tr.thenN ?_
    refine Tr.region ?_
    refine Tr.val (V.move rfl) rfl ?_
    refine Tr.val (V.add rfl rfl (by omega)) rfl ?_
    refine Tr.val (V.assign rfl) rfl ?_
    refine Tr.lNil ?_
    exact Tr.again (i + 1, [], qr, o) ⟨by simp only; omega, by simp only; omega, hos, hqo, hoo⟩ (by simp only; omega) (lk_cons rfl (lk_cons rfl (lk_cons rfl (lk_cons rfl (lk_cons rfl (lk_cons rfl (lk_cons (congrArg some (congrArg (Value.int .i64) (by simp only; omega))) (lk_nil _)))))))) (by simp only; rw [hv]; exact .cons _ (List.Sublist.refl _))
  · obtain ⟨o2, ho2d⟩ : ∃ o2, o2 = o.tail (IV u) := ⟨_, rfl⟩
    have ho2 : o2.ok (r.map IV) := by rw [ho2d]; exact o.tail_ok (IV u) (r.map IV) hoo
    have hob : o.blk 3 ((u :: r).map IV) = o2.blk 3 (r.map IV) := by rw [ho2d]; exact (o.tail_blk 3 (IV u) (r.map IV) hoo).symm
    obtain ⟨po2, co2, hv2, -⟩ := o2.slice (r.map IV) ho2
    have hsl : Value.slice (if co = 1 then po else po.map (·.add 1)) (r.length + 1 - 1) (co - 1) = .slice po2 r.length co2 := by
      have h1 := htl (IV u) (r.map IV) rfl
      rw [← ho2d, hv2] at h1
      simpa using h1.symm
    rw [List.length_map] at hv2
    have hco1 : r.length + 1 ≤ co := hco
    refine Tr.seq ?_
    refine Tr.seq ?_
    refine Tr.region ?_
    refine Tr.val (V.move rfl) rfl ?_
    refine Tr.val (V.move rfl) rfl ?_
    refine Tr.val (V.len Try.runUnderlying40 rfl) rfl ?_
    refine Tr.val (V.lss (b := true) rfl rfl (decide_eq_true (by omega))) rfl ?_
    refine Tr.val (V.move rfl) rfl ?_
    refine Tr.valG rfl (V.move rfl) rfl ?_
    refine Tr.valG rfl (V.lss (b := true) rfl rfl (decide_eq_true (by omega))) rfl ?_
    refine Tr.val (V.pick rfl rfl) rfl ?_
    refine Tr.lNil ?_
    refine Tr.thenN ?_
    refine Tr.condT rfl ?_
    refine Tr.skip ?_
    refine Tr.thenN ?_
    refine Tr.seq ?_
    refine Tr.block ?_
    refine Tr.seq ?_
    refine Tr.seq ?_
    refine Tr.region ?_
    refine Tr.val (V.move rfl) rfl ?_
    refine Tr.val (V.move rfl) rfl ?_
    refine Tr.val (V.idxS (j := i) Try.runUnderlying40 Try.sizeOf3 rfl rfl (by omega) (by omega) (hp (by omega))) rfl ?_
    refine Tr.val (V.load1 Try.isAgg3 rfl (V.cellR (RdP.old hr (fun _ _ => by simp)) (by rw [List.getElem?_map, hxv]; rfl))) rfl ?_
    refine Tr.val (V.geq (b := false) rfl rfl (decide_eq_false (by omega))) rfl ?_
    refine Tr.lNil ?_
    refine Tr.thenN ?_
    refine Tr.condF rfl ?_
    refine Tr.seq ?_
    refine Tr.region ?_
    refine Tr.val (V.move rfl) rfl ?_
    refine Tr.op (W.callX (X := QBr q qr (r.length + 1) ρ :: qr.blk 3 ((u :: r).map IV)) (val := fun _ : Row => .tuple #[IV u, .bool true]) (Y := fun qr2 => QBr q qr2 r.length ρ :: qr2.blk 3 (r.map IV)) (Px := fun qr2 => qr2.ok (r.map IV))  (args1 rfl) Try.call32 rfl (perm_mid _ _ _ _) (fun w1 hx _ => pop_row q qr u r ρ w1 hqo (by have h9 : (u :: r).length ≤ 40 := hos40; rw [List.length_cons] at h9; omega) hx) fun qr2 hq2 => Tr.permS (L' := ⟨g7, 40, [.slice po (r.length + 1) co]⟩ :: QBr q qr2 r.length ρ :: (qr2.blk 3 (r.map IV) ++ (o.blk 3 ((u :: r).map IV) ++ [⟨g4, 4, [.bool false]⟩]))) (perm_mid _ _ _ _).symm ?_)
    refine Tr.val (V.move rfl) rfl ?_
    refine Tr.val (V.extract rfl rfl) rfl ?_
    refine Tr.val (V.extract rfl rfl) rfl ?_
    refine Tr.val (V.assign rfl) rfl ?_
    refine Tr.val (V.assign rfl) rfl ?_
    refine Tr.lNil ?_
    refine Tr.thenN ?_
    refine Tr.seq ?_
    refine Tr.seq ?_
    refine Tr.region ?_
    refine Tr.val (V.move rfl) rfl ?_
    refine Tr.val (V.load1 Try.isAgg40 rfl (V.cellB (by repeat (first | exact List.Mem.head _ | apply List.Mem.tail)) rfl)) rfl ?_
    refine Tr.val (V.len Try.runUnderlying40 rfl) rfl ?_
    refine Tr.val (V.gtr (b := true) rfl rfl (decide_eq_true (by omega))) rfl ?_
    refine Tr.val (V.neqBb (b := false) Try.runUnderlying4 rfl rfl rfl) rfl ?_
    refine Tr.val (V.move rfl) rfl ?_
    refine Tr.valG rfl (V.move rfl) rfl ?_
    refine Tr.valG rfl (V.not rfl) rfl ?_
    refine Tr.valG rfl (V.move rfl) rfl ?_
    refine Tr.skipG rfl rfl rfl ?_
    refine Tr.skipG rfl rfl rfl ?_
    refine Tr.valG rfl (V.pick rfl rfl) rfl ?_
    refine Tr.val (V.pick rfl rfl) rfl ?_
    refine Tr.val (V.move rfl) rfl ?_
    refine Tr.valG rfl (V.move rfl) rfl ?_
    refine Tr.valG rfl (V.move rfl) rfl ?_
    refine Tr.valG rfl (V.move rfl) rfl ?_
    refine Tr.valG rfl (V.load1 Try.isAgg40 rfl (V.cellB (by repeat (first | exact List.Mem.head _ | apply List.Mem.tail)) rfl)) rfl ?_
    refine Tr.valG rfl (V.idxS (j := 0) Try.runUnderlying40 Try.sizeOf3 rfl rfl rfl (by omega) (hps (by simp))) rfl ?_
    refine Tr.valG rfl (V.load1 Try.isAgg3 rfl (V.cellR (hrd 3 (fun y hy => .tail _ (.tail _ (List.mem_append_right _ (List.mem_append_left _ hy))))) rfl)) rfl ?_
    refine Tr.valG rfl (V.neq (b := false) rfl rfl (decide_eq_false (by simp))) rfl ?_
    refine Tr.valG rfl (V.pick rfl rfl) rfl ?_
    refine Tr.val (V.pick rfl rfl) rfl ?_
    refine Tr.lNil ?_
    refine Tr.thenN ?_
    refine Tr.condF rfl ?_
    refine Tr.skip ?_
    refine Tr.thenN ?_
    refine Tr.seq ?_
    refine Tr.region ?_
    refine Tr.val (V.move rfl) rfl ?_
    refine Tr.lNil ?_
    refine Tr.thenN ?_
    refine Tr.condT rfl ?_
    refine Tr.region ?_
    refine Tr.val (V.load1 Try.isAgg40 rfl (V.cellB (by repeat (first | exact List.Mem.head _ | apply List.Mem.tail)) rfl)) rfl ?_
    refine Tr.val ((by rw [← hsl]; exact V.sliceS (l := 1) Try.runUnderlying40 Try.sizeOf3 rfl rfl rfl rfl rfl (by omega) (by omega) : VOp Try.prog _ _ _ _ _ _ _ (.slice po2 r.length co2))) rfl ?_
    refine Tr.op (W.store1E (cs := [.slice po (r.length + 1) co]) (v := .slice po2 r.length co2) (cs' := [.slice po2 r.length co2]) Try.sizeOf40 rfl rfl rfl rfl rfl (by repeat (first | exact Upd.head | apply Upd.tail)) (by simp) ?_)
    refine Tr.lNil ?_
    refine Tr.thenN ?_
    refine Tr.seq ?_
    refine Tr.regionD [0, 1, 0, 4, 15, 31, 63, 127, 255, 511] [] (.pure 0 (.soft 1 (.soft 2 (.pure 3 (.pure 4 (.pure 5 (.pure 6 (.hard 7 (.pure 8 (.pure 9 .done)))))))))) mixed (by kernel_rfl) ?_
    refine TrP.pure rfl (fun _ => V.move rfl) rfl ?_
    refine TrP.call rfl (args1 rfl) Try.call33 rfl (fun w1 hw1 => by have hn : (r).length = r.length := (by simp); have h := qlen_row q qr2 (r) ρ w1 hq2 (by rw [hn]; exact Hp.again (L := [QBr q qr2 (r.length) ρ]) (fun y hy => by rw [List.mem_singleton.1 hy]; exact hw1.lies _ (by repeat (first | exact List.Mem.head _ | apply List.Mem.tail))) (by simp)); rw [hn] at h; exact h) ?_
    refine TrP.soft rfl (V.load1 Try.isAgg40 rfl (V.cellB (by repeat (first | exact List.Mem.head _ | apply List.Mem.tail)) rfl)) rfl ?_
    refine TrP.pure rfl (fun _ => V.len Try.runUnderlying40 rfl) rfl ?_
    refine TrP.pure rfl (fun _ => V.neq (b := false) rfl rfl (decide_eq_false (by simp))) rfl ?_
    refine TrP.pure rfl (fun _ => V.move rfl) rfl ?_
    refine TrP.pureG rfl rfl (fun _ => V.move rfl) rfl ?_
    refine TrP.hardG rfl rfl (W.call (val := fun b : Nat => .func (.func 43) #[] #[.pointer (some ⟨b, 0, none⟩)]) (N := fun b => [⟨b, 41, [.pointer (some ⟨q, 0, none⟩)]⟩]) (Px := fun _ => True)  (args1 rfl) Try.call34 rfl (fun w1 hw1 => qall_any q w1) fun g94 _ => ?_)
    refine Tr.pOn (by first | exact List.Sublist.refl _ | exact List.sublist_cons_self _ _ | exact List.sublist_append_right _ _ | simp) ?_
    refine TrP.pureG rfl rfl (fun _ => V.eqlFunc Try.runUnderlying48 rfl rfl) rfl ?_
    refine TrP.pure rfl (fun _ => V.pick rfl rfl) rfl ?_
    refine TrP.done ?_
    refine Tr.thenN ?_
    refine Tr.condF rfl ?_
    refine Tr.skip ?_
    refine Tr.inN ?_
    refine Tr.thenN ?_
    refine Tr.region ?_
    refine Tr.val (V.move rfl) rfl ?_
    refine Tr.val (V.add rfl rfl (by omega)) rfl ?_
    refine Tr.val (V.assign rfl) rfl ?_
    refine Tr.lNil ?_
    exact Tr.again (i + 1, r, qr2, o2) ⟨by simp only; omega, by simp only; omega, by have h9 : ((u :: r).length : Int) ≤ ρ := hos; rw [List.length_cons] at h9; show (r.length : Int) ≤ ρ; omega, hq2, ho2⟩ (by simp only; omega) (lk_cons rfl (lk_cons rfl (lk_cons rfl (lk_cons rfl (lk_cons rfl (lk_cons rfl (lk_cons (congrArg some (congrArg (Value.int .i64) (by simp only; omega))) (lk_nil _)))))))) (by simp only; rw [hv2, ← hob]; exact .cons _ (List.Sublist.refl _))
  · refine Tr.seq ?_
    refine Tr.seq ?_
    refine Tr.region ?_
    refine Tr.val (V.move rfl) rfl ?_
    refine Tr.val (V.move rfl) rfl ?_
    refine Tr.val (V.len Try.runUnderlying40 rfl) rfl ?_
    refine Tr.val (V.lss (b := true) rfl rfl (decide_eq_true (by omega))) rfl ?_
    refine Tr.val (V.move rfl) rfl ?_
    refine Tr.valG rfl (V.move rfl) rfl ?_
    refine Tr.valG rfl (V.lss (b := false) rfl rfl (decide_eq_false (by omega))) rfl ?_
    refine Tr.val (V.pick rfl rfl) rfl ?_
    refine Tr.lNil ?_
    refine Tr.thenN ?_
    refine Tr.condF rfl ?_
    refine Tr.exit ?_
    refine Tr.thenX ?_
    refine Tr.thenX ?_
    refine Tr.inHit ?_
    refine Tr.thenN ?_
    refine Tr.seq ?_
    refine Tr.region ?_
    refine Tr.op (W.alloc (cs := [.int .i64 0]) Try.zeroValue3 rfl rfl fun g12 => ?_)
    refine Tr.op (W.store1 Try.sizeOf3 rfl rfl rfl rfl (by repeat (first | exact Upd.head | apply Upd.tail)) (by simp) ?_)
    refine Tr.lNil ?_
    refine Tr.thenN ?_
    refine Tr.seq ?_
    refine Tr.seq ?_
    refine Tr.region ?_
    refine Tr.val (V.move rfl) rfl ?_
    refine Tr.op (W.call (val := fun b : Nat => .func (.func 43) #[] #[.pointer (some ⟨b, 0, none⟩)]) (N := fun b => [⟨b, 41, [.pointer (some ⟨q, 0, none⟩)]⟩]) (Px := fun _ => True)  (args1 rfl) Try.call34 rfl (fun w1 hw1 => qall_any q w1) fun b _ => ?_)
    refine Tr.lNil ?_
    refine Tr.thenN ?_
    refine Tr.block ?_
    refine Tr.weak (e' := [(4, .pointer (some ⟨g4, 0, none⟩)), (5, .bool true), (7, .pointer (some ⟨g7, 0, none⟩)), (12, .pointer (some ⟨g12, 0, none⟩)), (98, .func (.func 43) #[] #[.pointer (some ⟨b, 0, none⟩)])]) (lk_cons rfl (lk_cons rfl (lk_cons rfl (lk_cons rfl (lk_cons rfl (lk_nil _)))))) ?_
    refine Tr.rangeF (e := [(4, .pointer (some ⟨g4, 0, none⟩)), (5, .bool true), (7, .pointer (some ⟨g7, 0, none⟩)), (12, .pointer (some ⟨g12, 0, none⟩)), (98, .func (.func 43) #[] #[.pointer (some ⟨b, 0, none⟩)])]) (g := .tmp 98) (lb := #[.pointer (some ⟨b, 0, none⟩)]) (ps := #[99]) (xs := os) (N := os.length) (encs := fun x : Int => #[IV x]) (fun pre => ⟨b, 41, [.pointer (some ⟨q, 0, none⟩)]⟩ :: ⟨g12, 3, [.int .i64 ((pre.length : Nat) : Int)]⟩ :: ⟨g7, 40, [.slice po os.length co]⟩ :: QBr q qr os.length ρ :: (qr.blk 3 (os.map IV) ++ (o.blk 3 (os.map IV) ++ [⟨g4, 4, [.bool false]⟩]))) (⟨b, 41, [.pointer (some ⟨q, 0, none⟩)]⟩ :: QBr q qr os.length ρ :: qr.blk 3 (os.map IV)) (fun x => (99, IV x) :: [(4, .pointer (some ⟨g4, 0, none⟩)), (5, .bool true), (7, .pointer (some ⟨g7, 0, none⟩)), (12, .pointer (some ⟨g12, 0, none⟩)), (98, .func (.func 43) #[] #[.pointer (some ⟨b, 0, none⟩)])]) (fun x => (13, IV x) :: (99, IV x) :: [(4, .pointer (some ⟨g4, 0, none⟩)), (5, .bool true), (7, .pointer (some ⟨g7, 0, none⟩)), (12, .pointer (some ⟨g12, 0, none⟩)), (98, .func (.func 43) #[] #[.pointer (some ⟨b, 0, none⟩)])]) rfl Try.call43 (fun _ => rfl) ?_ ?_ ?_ ?_ ?_ ?_ ?_
    · intro w1 hw1
      obtain ⟨pq, cq, hqv, _, hpq, hrq⟩ := qr.slice (os.map IV) hqo
      rw [List.length_map] at hqv hpq
      have hs := hw1.sub (L' := ⟨b, 41, [.pointer (some ⟨q, 0, none⟩)]⟩ :: QBr q qr os.length ρ :: qr.blk 3 (os.map IV)) (.cons_cons _ (.cons _ (.cons _ (.cons_cons _ (List.sublist_append_left _ _)))))
      exact qiter_stops q b pq cq ρ os _ w1 hs.lies hs.apart (.head _) (by show (⟨q, 65, [.slice pq os.length cq, .int .i64 ρ]⟩ : Ent) ∈ _; rw [← hqv]; exact .tail _ (.head _)) (fun B E => hrq 3 (fun y hy => .tail _ (.tail _ hy))) hpq (by omega)
    · exact fun pre y hy => (List.Sublist.subset (.cons_cons _ (.cons _ (.cons _ (.cons_cons _ (List.sublist_append_left _ _)))))) hy
    · exact fun _ _ => rfl
    · exact fun x a he => he.zip1 rfl _
    · intro x l pre W0 K hK
      have hF : Broad (Fence.wide.inRound l) := Broad.round l
      refine Tr.regionN ?_
      refine Tr.valN hF rfl (V.assign rfl) rfl ?_
      refine Tr.lNilN ?_
      exact Tr.thenN hK
    · intro l pre x W0 hpre hlen
      have hF : Broad (Fence.wide.inRound l) := Broad.round l
      obtain ⟨y, hy⟩ : ∃ y, os[pre.length]? = some y := ⟨_, List.getElem?_eq_getElem hlen⟩
      by_cases hxy : x = y
      · subst hxy
        have hgood : (pre ++ [x]) <+: os := (prefix_snoc hpre).2 hy
        refine Tr.blockN ?_
        refine Tr.seqN ?_
        refine Tr.seqN ?_
        refine Tr.regionN ?_
        refine Tr.valN hF rfl (V.load1 Try.isAgg3 rfl (V.cellB (by repeat (first | exact List.Mem.head _ | apply List.Mem.tail)) rfl)) rfl ?_
        refine Tr.valN hF rfl (V.load1 Try.isAgg40 rfl (V.cellB (by repeat (first | exact List.Mem.head _ | apply List.Mem.tail)) rfl)) rfl ?_
        refine Tr.valN hF rfl (V.len Try.runUnderlying40 rfl) rfl ?_
        refine Tr.valN hF rfl (V.geq (b := false) rfl rfl (decide_eq_false (by omega))) rfl ?_
        refine Tr.valN hF rfl (V.move rfl) rfl ?_
        refine Tr.valGN hF rfl rfl (V.move rfl) rfl ?_
        refine Tr.valGN hF rfl rfl (V.load1 Try.isAgg40 rfl (V.cellB (by repeat (first | exact List.Mem.head _ | apply List.Mem.tail)) rfl)) rfl ?_
        refine Tr.valGN hF rfl rfl (V.load1 Try.isAgg3 rfl (V.cellB (by repeat (first | exact List.Mem.head _ | apply List.Mem.tail)) rfl)) rfl ?_
        refine Tr.valGN hF rfl rfl (V.idxS (j := pre.length) Try.runUnderlying40 Try.sizeOf3 rfl rfl rfl hlen (hps (by omega))) rfl ?_
        refine Tr.valGN hF rfl rfl (V.load1 Try.isAgg3 rfl (V.cellR (hrd 3 (fun y hy => .tail _ (.tail _ (.tail _ (.tail _ (List.mem_append_right _ (List.mem_append_left _ hy))))))) (by rw [List.getElem?_map, hy]; rfl))) rfl ?_
        refine Tr.valGN hF rfl rfl (V.neq (b := false) rfl rfl (decide_eq_false (by simp))) rfl ?_
        refine Tr.valN hF rfl (V.pick rfl rfl) rfl ?_
        refine Tr.lNilN ?_
        refine Tr.thenN ?_
        refine Tr.condFN rfl ?_
        refine Tr.skipN ?_
        refine Tr.thenN ?_
        refine Tr.regionN ?_
        refine Tr.valN hF rfl (V.load1 Try.isAgg3 rfl (V.cellB (by repeat (first | exact List.Mem.head _ | apply List.Mem.tail)) rfl)) rfl ?_
        refine Tr.valN hF rfl ((by rw [show (((pre ++ [x]).length : Nat) : Int) = (pre.length : Int) + 1 from by simp]; exact V.add rfl rfl (by omega) : VOp Try.prog _ _ _ _ _ _ _ (.int .i64 (((pre ++ [x]).length : Nat) : Int)))) rfl ?_
        refine Tr.opN hF rfl (W.store1 Try.sizeOf3 rfl rfl rfl rfl (by repeat (first | exact Upd.head | apply Upd.tail)) (by simp) ?_)
        refine Tr.lNilN ?_
        refine Tr.inN ?_
        exact fun a w1 he hw1 => .inl ⟨rfl, hgood, hw1⟩
      · have hbad : ¬ (pre ++ [x]) <+: os := fun h => hxy (by have h2 := (prefix_snoc hpre).1 h; rw [hy] at h2; exact (Option.some.inj h2).symm)
        refine Tr.blockN ?_
        refine Tr.seqN ?_
        refine Tr.seqN ?_
        refine Tr.regionN ?_
        refine Tr.valN hF rfl (V.load1 Try.isAgg3 rfl (V.cellB (by repeat (first | exact List.Mem.head _ | apply List.Mem.tail)) rfl)) rfl ?_
        refine Tr.valN hF rfl (V.load1 Try.isAgg40 rfl (V.cellB (by repeat (first | exact List.Mem.head _ | apply List.Mem.tail)) rfl)) rfl ?_
        refine Tr.valN hF rfl (V.len Try.runUnderlying40 rfl) rfl ?_
        refine Tr.valN hF rfl (V.geq (b := false) rfl rfl (decide_eq_false (by omega))) rfl ?_
        refine Tr.valN hF rfl (V.move rfl) rfl ?_
        refine Tr.valGN hF rfl rfl (V.move rfl) rfl ?_
        refine Tr.valGN hF rfl rfl (V.load1 Try.isAgg40 rfl (V.cellB (by repeat (first | exact List.Mem.head _ | apply List.Mem.tail)) rfl)) rfl ?_
        refine Tr.valGN hF rfl rfl (V.load1 Try.isAgg3 rfl (V.cellB (by repeat (first | exact List.Mem.head _ | apply List.Mem.tail)) rfl)) rfl ?_
        refine Tr.valGN hF rfl rfl (V.idxS (j := pre.length) Try.runUnderlying40 Try.sizeOf3 rfl rfl rfl hlen (hps (by omega))) rfl ?_
        refine Tr.valGN hF rfl rfl (V.load1 Try.isAgg3 rfl (V.cellR (hrd 3 (fun y hy => .tail _ (.tail _ (.tail _ (.tail _ (List.mem_append_right _ (List.mem_append_left _ hy))))))) (by rw [List.getElem?_map, hy]; rfl))) rfl ?_
        refine Tr.valGN hF rfl rfl (V.neq (b := true) rfl rfl (decide_eq_true (by simpa using hxy))) rfl ?_
        refine Tr.valN hF rfl (V.pick rfl rfl) rfl ?_
        refine Tr.lNilN ?_
        refine Tr.thenN ?_
        refine Tr.condTN rfl ?_
        refine Tr.seqN ?_
        refine Tr.regionN ?_
        refine Tr.opN hF rfl (W.store1 (cs := [.bool false]) Try.sizeOf4 rfl rfl rfl rfl (.tail (.tail (.tail (.tail (Upd.app _ (Upd.app _ .head)))))) (by decide) ?_)
        refine Tr.lNilN ?_
        refine Tr.thenN ?_
        refine Tr.retN ?_
        exact fun a w1 he hw1 => .inr ⟨rfl, hbad, _, hw1⟩
    · intro D W0 hBD hD a1 W1 ha1 hd1 hw1 hB0 hE
      subst hE
      have hDE : D ∉ (⟨b, 41, [.pointer (some ⟨q, 0, none⟩)]⟩ :: ⟨g12, 3, [.int .i64 ((os.length : Nat) : Int)]⟩ :: ⟨g7, 40, [.slice po os.length co]⟩ :: QBr q qr os.length ρ :: (qr.blk 3 (os.map IV) ++ (o.blk 3 (os.map IV) ++ [⟨g4, 4, [.bool false]⟩]))).map (·.g) := fun hm => by
        obtain ⟨y, hy, rfl⟩ := List.mem_map.1 hm
        rw [(hB0.blk y hy).1] at hD
        cases hD
      refine (show TrM [{ target := .collected D, args := #[] }] 121 [(4, .pointer (some ⟨g4, 0, none⟩)), (5, .bool true), (7, .pointer (some ⟨g7, 0, none⟩)), (12, .pointer (some ⟨g12, 0, none⟩)), (98, .func (.func 43) #[] #[.pointer (some ⟨b, 0, none⟩)])] W1 _ (⟨b, 41, [.pointer (some ⟨q, 0, none⟩)]⟩ :: ⟨g12, 3, [.int .i64 ((os.length : Nat) : Int)]⟩ :: ⟨g7, 40, [.slice po os.length co]⟩ :: QBr q qr os.length ρ :: (qr.blk 3 (os.map IV) ++ (o.blk 3 (os.map IV) ++ [⟨g4, 4, [.bool false]⟩]))) _ from ?_) a1 W1 ha1 hd1 hw1
      refine TrM.inN ?_
      refine TrM.thenN ?_
      refine TrM.seq ?_
      refine TrM.region ?_
      refine TrM.val (V.move rfl) rfl ?_
      refine TrM.val (V.move rfl) rfl ?_
      refine TrM.valG rfl (V.load1 Try.isAgg3 rfl (V.cellB (by repeat (first | exact List.Mem.head _ | apply List.Mem.tail)) rfl)) rfl ?_
      refine TrM.valG rfl (V.load1 Try.isAgg40 rfl (V.cellB (by repeat (first | exact List.Mem.head _ | apply List.Mem.tail)) rfl)) rfl ?_
      refine TrM.valG rfl (V.len Try.runUnderlying40 rfl) rfl ?_
      refine TrM.valG rfl (V.eql (b := true) rfl rfl (decide_eq_true rfl)) rfl ?_
      refine TrM.val (V.pick rfl rfl) rfl ?_
      refine TrM.store1 (cs := [.bool false]) Try.sizeOf4 rfl rfl rfl rfl (.tail (.tail (.tail (.tail (Upd.app _ (Upd.app _ .head)))))) (by decide) ?_
      refine TrM.lNil ?_
      refine TrM.thenN ?_
      refine TrM.ret ?_
      refine TrM.out1 (v := .bool true) rfl rfl Try.isAgg4 hD hDE fun w3 hw3 => ?_
      have hj := hB0.join hw3 (by simp only [List.map_cons, List.map_append, List.map_nil])
      have hD3 : w3.heap[D]? = some (.deferred (some [])) := (hw3.old D (Array.getElem?_eq_some_iff.1 hD).1 hDE).trans hD
      have hp3 := hj.putObj (.deferred none) hBD hD3 rfl
      exact ⟨V.cellB (t := 4) (cs := [.bool true]) (o := 0) (v := .bool true) (.tail _ (.tail _ (.tail _ (.tail _ (List.mem_append_right _ (List.mem_append_right _ (.head _))))))) rfl _ hp3, rfl, hp3.sub (List.nil_sublist _)⟩
  · refine Tr.seq ?_
    refine Tr.seq ?_
    refine Tr.region ?_
    refine Tr.val (V.move rfl) rfl ?_
    refine Tr.val (V.move rfl) rfl ?_
    refine Tr.val (V.len Try.runUnderlying40 rfl) rfl ?_
    refine Tr.val (V.lss (b := false) rfl rfl (decide_eq_false (by omega))) rfl ?_
    refine Tr.val (V.move rfl) rfl ?_
    refine Tr.skipG rfl rfl rfl ?_
    refine Tr.skipG rfl rfl rfl ?_
    refine Tr.val (V.pick rfl rfl) rfl ?_
    refine Tr.lNil ?_
    refine Tr.thenN ?_
    refine Tr.condF rfl ?_
    refine Tr.exit ?_
    refine Tr.thenX ?_
    refine Tr.thenX ?_
    refine Tr.inHit ?_
    refine Tr.thenN ?_
    refine Tr.seq ?_
    refine Tr.region ?_
    refine Tr.op (W.alloc (cs := [.int .i64 0]) Try.zeroValue3 rfl rfl fun g12 => ?_)
    refine Tr.op (W.store1 Try.sizeOf3 rfl rfl rfl rfl (by repeat (first | exact Upd.head | apply Upd.tail)) (by simp) ?_)
    refine Tr.lNil ?_
    refine Tr.thenN ?_
    refine Tr.seq ?_
    refine Tr.seq ?_
    refine Tr.region ?_
    refine Tr.val (V.move rfl) rfl ?_
    refine Tr.op (W.call (val := fun b : Nat => .func (.func 43) #[] #[.pointer (some ⟨b, 0, none⟩)]) (N := fun b => [⟨b, 41, [.pointer (some ⟨q, 0, none⟩)]⟩]) (Px := fun _ => True)  (args1 rfl) Try.call34 rfl (fun w1 hw1 => qall_any q w1) fun b _ => ?_)
    refine Tr.lNil ?_
    refine Tr.thenN ?_
    refine Tr.block ?_
    refine Tr.weak (e' := [(4, .pointer (some ⟨g4, 0, none⟩)), (5, .bool true), (7, .pointer (some ⟨g7, 0, none⟩)), (12, .pointer (some ⟨g12, 0, none⟩)), (98, .func (.func 43) #[] #[.pointer (some ⟨b, 0, none⟩)])]) (lk_cons rfl (lk_cons rfl (lk_cons rfl (lk_cons rfl (lk_cons rfl (lk_nil _)))))) ?_
    refine Tr.rangeF (e := [(4, .pointer (some ⟨g4, 0, none⟩)), (5, .bool true), (7, .pointer (some ⟨g7, 0, none⟩)), (12, .pointer (some ⟨g12, 0, none⟩)), (98, .func (.func 43) #[] #[.pointer (some ⟨b, 0, none⟩)])]) (g := .tmp 98) (lb := #[.pointer (some ⟨b, 0, none⟩)]) (ps := #[99]) (xs := os) (N := os.length) (encs := fun x : Int => #[IV x]) (fun pre => ⟨b, 41, [.pointer (some ⟨q, 0, none⟩)]⟩ :: ⟨g12, 3, [.int .i64 ((pre.length : Nat) : Int)]⟩ :: ⟨g7, 40, [.slice po os.length co]⟩ :: QBr q qr os.length ρ :: (qr.blk 3 (os.map IV) ++ (o.blk 3 (os.map IV) ++ [⟨g4, 4, [.bool false]⟩]))) (⟨b, 41, [.pointer (some ⟨q, 0, none⟩)]⟩ :: QBr q qr os.length ρ :: qr.blk 3 (os.map IV)) (fun x => (99, IV x) :: [(4, .pointer (some ⟨g4, 0, none⟩)), (5, .bool true), (7, .pointer (some ⟨g7, 0, none⟩)), (12, .pointer (some ⟨g12, 0, none⟩)), (98, .func (.func 43) #[] #[.pointer (some ⟨b, 0, none⟩)])]) (fun x => (13, IV x) :: (99, IV x) :: [(4, .pointer (some ⟨g4, 0, none⟩)), (5, .bool true), (7, .pointer (some ⟨g7, 0, none⟩)), (12, .pointer (some ⟨g12, 0, none⟩)), (98, .func (.func 43) #[] #[.pointer (some ⟨b, 0, none⟩)])]) rfl Try.call43 (fun _ => rfl) ?_ ?_ ?_ ?_ ?_ ?_ ?_
    · intro w1 hw1
      obtain ⟨pq, cq, hqv, _, hpq, hrq⟩ := qr.slice (os.map IV) hqo
      rw [List.length_map] at hqv hpq
      have hs := hw1.sub (L' := ⟨b, 41, [.pointer (some ⟨q, 0, none⟩)]⟩ :: QBr q qr os.length ρ :: qr.blk 3 (os.map IV)) (.cons_cons _ (.cons _ (.cons _ (.cons_cons _ (List.sublist_append_left _ _)))))
      exact qiter_stops q b pq cq ρ os _ w1 hs.lies hs.apart (.head _) (by show (⟨q, 65, [.slice pq os.length cq, .int .i64 ρ]⟩ : Ent) ∈ _; rw [← hqv]; exact .tail _ (.head _)) (fun B E => hrq 3 (fun y hy => .tail _ (.tail _ hy))) hpq (by omega)
    · exact fun pre y hy => (List.Sublist.subset (.cons_cons _ (.cons _ (.cons _ (.cons_cons _ (List.sublist_append_left _ _)))))) hy
    · exact fun _ _ => rfl
    · exact fun x a he => he.zip1 rfl _
    · intro x l pre W0 K hK
      have hF : Broad (Fence.wide.inRound l) := Broad.round l
      refine Tr.regionN ?_
      refine Tr.valN hF rfl (V.assign rfl) rfl ?_
      refine Tr.lNilN ?_
      exact Tr.thenN hK
    · intro l pre x W0 hpre hlen
      have hF : Broad (Fence.wide.inRound l) := Broad.round l
      obtain ⟨y, hy⟩ : ∃ y, os[pre.length]? = some y := ⟨_, List.getElem?_eq_getElem hlen⟩
      by_cases hxy : x = y
      · subst hxy
        have hgood : (pre ++ [x]) <+: os := (prefix_snoc hpre).2 hy
        refine Tr.blockN ?_
        refine Tr.seqN ?_
        refine Tr.seqN ?_
        refine Tr.regionN ?_
        refine Tr.valN hF rfl (V.load1 Try.isAgg3 rfl (V.cellB (by repeat (first | exact List.Mem.head _ | apply List.Mem.tail)) rfl)) rfl ?_
        refine Tr.valN hF rfl (V.load1 Try.isAgg40 rfl (V.cellB (by repeat (first | exact List.Mem.head _ | apply List.Mem.tail)) rfl)) rfl ?_
        refine Tr.valN hF rfl (V.len Try.runUnderlying40 rfl) rfl ?_
        refine Tr.valN hF rfl (V.geq (b := false) rfl rfl (decide_eq_false (by omega))) rfl ?_
        refine Tr.valN hF rfl (V.move rfl) rfl ?_
        refine Tr.valGN hF rfl rfl (V.move rfl) rfl ?_
        refine Tr.valGN hF rfl rfl (V.load1 Try.isAgg40 rfl (V.cellB (by repeat (first | exact List.Mem.head _ | apply List.Mem.tail)) rfl)) rfl ?_
        refine Tr.valGN hF rfl rfl (V.load1 Try.isAgg3 rfl (V.cellB (by repeat (first | exact List.Mem.head _ | apply List.Mem.tail)) rfl)) rfl ?_
        refine Tr.valGN hF rfl rfl (V.idxS (j := pre.length) Try.runUnderlying40 Try.sizeOf3 rfl rfl rfl hlen (hps (by omega))) rfl ?_
        refine Tr.valGN hF rfl rfl (V.load1 Try.isAgg3 rfl (V.cellR (hrd 3 (fun y hy => .tail _ (.tail _ (.tail _ (.tail _ (List.mem_append_right _ (List.mem_append_left _ hy))))))) (by rw [List.getElem?_map, hy]; rfl))) rfl ?_
        refine Tr.valGN hF rfl rfl (V.neq (b := false) rfl rfl (decide_eq_false (by simp))) rfl ?_
        refine Tr.valN hF rfl (V.pick rfl rfl) rfl ?_
        refine Tr.lNilN ?_
        refine Tr.thenN ?_
        refine Tr.condFN rfl ?_
        refine Tr.skipN ?_
        refine Tr.thenN ?_
        refine Tr.regionN ?_
        refine Tr.valN hF rfl (V.load1 Try.isAgg3 rfl (V.cellB (by repeat (first | exact List.Mem.head _ | apply List.Mem.tail)) rfl)) rfl ?_
        refine Tr.valN hF rfl ((by rw [show (((pre ++ [x]).length : Nat) : Int) = (pre.length : Int) + 1 from by simp]; exact V.add rfl rfl (by omega) : VOp Try.prog _ _ _ _ _ _ _ (.int .i64 (((pre ++ [x]).length : Nat) : Int)))) rfl ?_
        refine Tr.opN hF rfl (W.store1 Try.sizeOf3 rfl rfl rfl rfl (by repeat (first | exact Upd.head | apply Upd.tail)) (by simp) ?_)
        refine Tr.lNilN ?_
        refine Tr.inN ?_
        exact fun a w1 he hw1 => .inl ⟨rfl, hgood, hw1⟩
      · have hbad : ¬ (pre ++ [x]) <+: os := fun h => hxy (by have h2 := (prefix_snoc hpre).1 h; rw [hy] at h2; exact (Option.some.inj h2).symm)
        refine Tr.blockN ?_
        refine Tr.seqN ?_
        refine Tr.seqN ?_
        refine Tr.regionN ?_
        refine Tr.valN hF rfl (V.load1 Try.isAgg3 rfl (V.cellB (by repeat (first | exact List.Mem.head _ | apply List.Mem.tail)) rfl)) rfl ?_
        refine Tr.valN hF rfl (V.load1 Try.isAgg40 rfl (V.cellB (by repeat (first | exact List.Mem.head _ | apply List.Mem.tail)) rfl)) rfl ?_
        refine Tr.valN hF rfl (V.len Try.runUnderlying40 rfl) rfl ?_
        refine Tr.valN hF rfl (V.geq (b := false) rfl rfl (decide_eq_false (by omega))) rfl ?_
        refine Tr.valN hF rfl (V.move rfl) rfl ?_
        refine Tr.valGN hF rfl rfl (V.move rfl) rfl ?_
        refine Tr.valGN hF rfl rfl (V.load1 Try.isAgg40 rfl (V.cellB (by repeat (first | exact List.Mem.head _ | apply List.Mem.tail)) rfl)) rfl ?_
        refine Tr.valGN hF rfl rfl (V.load1 Try.isAgg3 rfl (V.cellB (by repeat (first | exact List.Mem.head _ | apply List.Mem.tail)) rfl)) rfl ?_
        refine Tr.valGN hF rfl rfl (V.idxS (j := pre.length) Try.runUnderlying40 Try.sizeOf3 rfl rfl rfl hlen (hps (by omega))) rfl ?_
        refine Tr.valGN hF rfl rfl (V.load1 Try.isAgg3 rfl (V.cellR (hrd 3 (fun y hy => .tail _ (.tail _ (.tail _ (.tail _ (List.mem_append_right _ (List.mem_append_left _ hy))))))) (by rw [List.getElem?_map, hy]; rfl))) rfl ?_
        refine Tr.valGN hF rfl rfl (V.neq (b := true) rfl rfl (decide_eq_true (by simpa using hxy))) rfl ?_
        refine Tr.valN hF rfl (V.pick rfl rfl) rfl ?_
        refine Tr.lNilN ?_
        refine Tr.thenN ?_
        refine Tr.condTN rfl ?_
        refine Tr.seqN ?_
        refine Tr.regionN ?_
        refine Tr.opN hF rfl (W.store1 (cs := [.bool false]) Try.sizeOf4 rfl rfl rfl rfl (.tail (.tail (.tail (.tail (Upd.app _ (Upd.app _ .head)))))) (by decide) ?_)
        refine Tr.lNilN ?_
        refine Tr.thenN ?_
        refine Tr.retN ?_
        exact fun a w1 he hw1 => .inr ⟨rfl, hbad, _, hw1⟩
    · intro D W0 hBD hD a1 W1 ha1 hd1 hw1 hB0 hE
      subst hE
      have hDE : D ∉ (⟨b, 41, [.pointer (some ⟨q, 0, none⟩)]⟩ :: ⟨g12, 3, [.int .i64 ((os.length : Nat) : Int)]⟩ :: ⟨g7, 40, [.slice po os.length co]⟩ :: QBr q qr os.length ρ :: (qr.blk 3 (os.map IV) ++ (o.blk 3 (os.map IV) ++ [⟨g4, 4, [.bool false]⟩]))).map (·.g) := fun hm => by
        obtain ⟨y, hy, rfl⟩ := List.mem_map.1 hm
        rw [(hB0.blk y hy).1] at hD
        cases hD
      refine (show TrM [{ target := .collected D, args := #[] }] 121 [(4, .pointer (some ⟨g4, 0, none⟩)), (5, .bool true), (7, .pointer (some ⟨g7, 0, none⟩)), (12, .pointer (some ⟨g12, 0, none⟩)), (98, .func (.func 43) #[] #[.pointer (some ⟨b, 0, none⟩)])] W1 _ (⟨b, 41, [.pointer (some ⟨q, 0, none⟩)]⟩ :: ⟨g12, 3, [.int .i64 ((os.length : Nat) : Int)]⟩ :: ⟨g7, 40, [.slice po os.length co]⟩ :: QBr q qr os.length ρ :: (qr.blk 3 (os.map IV) ++ (o.blk 3 (os.map IV) ++ [⟨g4, 4, [.bool false]⟩]))) _ from ?_) a1 W1 ha1 hd1 hw1
      refine TrM.inN ?_
      refine TrM.thenN ?_
      refine TrM.seq ?_
      refine TrM.region ?_
      refine TrM.val (V.move rfl) rfl ?_
      refine TrM.val (V.move rfl) rfl ?_
      refine TrM.valG rfl (V.load1 Try.isAgg3 rfl (V.cellB (by repeat (first | exact List.Mem.head _ | apply List.Mem.tail)) rfl)) rfl ?_
      refine TrM.valG rfl (V.load1 Try.isAgg40 rfl (V.cellB (by repeat (first | exact List.Mem.head _ | apply List.Mem.tail)) rfl)) rfl ?_
      refine TrM.valG rfl (V.len Try.runUnderlying40 rfl) rfl ?_
      refine TrM.valG rfl (V.eql (b := true) rfl rfl (decide_eq_true rfl)) rfl ?_
      refine TrM.val (V.pick rfl rfl) rfl ?_
      refine TrM.store1 (cs := [.bool false]) Try.sizeOf4 rfl rfl rfl rfl (.tail (.tail (.tail (.tail (Upd.app _ (Upd.app _ .head)))))) (by decide) ?_
      refine TrM.lNil ?_
      refine TrM.thenN ?_
      refine TrM.ret ?_
      refine TrM.out1 (v := .bool true) rfl rfl Try.isAgg4 hD hDE fun w3 hw3 => ?_
      have hj := hB0.join hw3 (by simp only [List.map_cons, List.map_append, List.map_nil])
      have hD3 : w3.heap[D]? = some (.deferred (some [])) := (hw3.old D (Array.getElem?_eq_some_iff.1 hD).1 hDE).trans hD
      have hp3 := hj.putObj (.deferred none) hBD hD3 rfl
      exact ⟨V.cellB (t := 4) (cs := [.bool true]) (o := 0) (v := .bool true) (.tail _ (.tail _ (.tail _ (.tail _ (List.mem_append_right _ (List.mem_append_right _ (.head _))))))) rfl _ hp3, rfl, hp3.sub (List.nil_sublist _)⟩

theorem wordsQueue_walk (a0 : Int) (a1 : Option Addr) (len1 cap1 : Nat) (z1 : List Int) (w : World) (w0 : (Lit.int .i64 a0).wf = true) (w1 : IsRow .i64 w a1 len1 cap1 z1) :
    Calls Try.prog 11 #[.int .i64 a0, .slice a1 len1 cap1] w fun r w' => r = .returned (.bool true) ∧ Hp w [] [] w' := by
  obtain ⟨xs, hr, hl, hmc, hc, _⟩ := w1.ints
  exact wordsQueue_run a0 a1 len1 cap1 xs w hr hl hmc hc
namespace wordsQueue
open Go.ChangeShapes Go.WideShapes Go.ChangeAt Go.RowKit Go.Sym
theorem own : ownKnob Try.prog.godebug = none := by kernel_rfl
theorem laidOut : laidOutB Try.prog = true := by kernel_rfl
set_option maxRecDepth 100000 in
theorem lifted (os : Os) (started : os.Started) (H : Type) (enc : TypeId × Value → H) :
    ReturnsInHanded {} Try.checked os 11 .any (Rows.wordsQueueSpec.pre6 enc Try.prog Try.f11 Rows.wordsQueueRow.domain false) (Rows.wordsQueueSpec.post enc Try.prog Try.f11 false true false false) := by
  refine returnsInHanded_of_change (C := Try.checked) own started (by kernel_rfl) Try.func11
    (ChangeSpec.witness6 (enc := enc) (C := Try.checked) false ⟨#[], #[.int .i64 0, .slice none 0 0], []⟩ 8 (by kernel_rfl) (by kernel_rfl) (by kernel_rfl) (by kernel_rfl)) ?_
  intro W base args ds gs before hval0 hW hcnd _
  have hval : ∀ (j : Nat) t v, Try.f11.params[j]? = some t → args[j]? = some v → Value.okWide Try.prog W .any base t v := hval0
  have hW' := hW
  obtain ⟨p, q, hA0, hV, rfl, hfz, hnd⟩ := hW
  have hA : DataW.TrodAll enc Try.prog W 0 (fun _ => true) true Try.f11.params.toList args.toList ds p := hA0
  rw [Try.params11] at hA hval
  obtain ⟨v0, vs0, d0, ds0, p0, q0, hargs, rfl, rfl, h0, r0⟩ := trodAll_cons hA
  obtain ⟨v1, vs1, d1, ds1, p1, q1, rfl, rfl, rfl, h1, r1⟩ := trodAll_cons r0
  obtain ⟨rfl, rfl, rfl⟩ := trodAll_nil r1
  obtain rfl : args = #[v0, v1] := by cases args; simp_all
  obtain ⟨rfl, rfl⟩ := trodVars_none hV
  obtain ⟨a0, rfl, rfl, rfl, w0⟩ := open_int Try.underlying3 (hval 0 3 v0 rfl rfl) h0
  obtain ⟨a1, len1, cap1, rfl⟩ := okWide_slice Try.underlying40 (hval 1 40 v1 rfl rfl)
  have k1 := h1
  have lt1 : ∀ x ∈ p1, x.block < W.heap.size := by obtain ⟨m, hm⟩ := k1; exact DataW.trod_lt m _ _ _ hm
  obtain ⟨z1, w1⟩ : ∃ zs, IsRow .i64 W a1 len1 cap1 zs := by
    obtain ⟨fuel, hf⟩ := h1
    rcases open_ints Try.underlying40 Try.underlying3 (by kernel_rfl) hf with ⟨hcs, _⟩ | ⟨x, l, c, zs, hcs, _, hl, hm, hz, _, hcell, hwz⟩
    · simp [Value.cells] at hcs
      obtain ⟨rfl, rfl, rfl⟩ := hcs
      exact ⟨[], .inl ⟨rfl, rfl, rfl, rfl⟩⟩
    · simp [Value.cells] at hcs
      obtain ⟨rfl, rfl, rfl⟩ := hcs
      exact ⟨zs, .inr ⟨_, rfl, hl, hm, by simpa using hz, hcell, hwz⟩⟩
  clear hA0 hval0
  refine (wordsQueue_walk a0 a1 len1 cap1 z1 W w0 w1).mono fun e W' ⟨he, hp⟩ => ?_
  have bel : Below W.heap.size W W' := hp.below
  subst he
  exact ⟨_, rfl, _, _, _, [], _, [], hW', trodAll_mk1 (shut_bool Try.underlying4 _), (trodAll_cons_mk (shut_int Try.underlying3 w0) (trodAll_cons_mk (Below.trod laidOut (by kernel_rfl) (of_decide_eq_true (by kernel_rfl)) k1 bel lt1) trodAll_mk0)), rfl, bel.frame _, fun h => by cases h⟩
theorem over : Rows.wordsQueueRow.holds Try.pinned (OpenSpec.ofChange Rows.wordsQueueSpec) :=
  OpenClaim.holds_of_wide 11 Try.f11 rfl rfl rfl rfl rfl rfl rfl ⟨rfl, rfl, rfl, rfl, rfl⟩ rfl rfl rfl rfl rfl (by kernel_rfl) Try.func11 (by kernel_rfl)
    (of_decide_eq_true (by kernel_rfl)) (by unfold Func.isWrapper; first | (rw [if_pos (by decide +kernel)]; kernel_rfl) | (rw [if_neg (by decide +kernel)]; exact ⟨rfl, rfl⟩))
    (fun os started H enc _ => lifted os started H enc)
end wordsQueue
/-- The statement. -/
theorem wordsQueueProved : Rows.WordsQueueSaid := wordsQueue.over
end Go.Proofs.Ytnhfmmohdiccgaa
