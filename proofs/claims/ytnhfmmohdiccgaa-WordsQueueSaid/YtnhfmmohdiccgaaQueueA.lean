/-
  Contracts of words.NewQueue, Push, Pop and Len, and of slices.Clone of integers. (Printed by queue1.py over the walk printer of this session.)
-/
import Derived.Test.YtnhfmmohdiccgaaSymH
import Derived.Test.YtnhfmmohdiccgaaRef1
namespace Go.Proofs.Ytnhfmmohdiccgaa
open Go.Sym Plain
/-- An integer's cell. -/
abbrev IV (x : Int) : Value := .int .i64 x
/-- A queue's own block. -/
abbrev QB (q : Nat) (p : Option Addr) (m c : Nat) (room : Int) : Ent := ⟨q, 65, [.slice p m c, .int .i64 room]⟩
def effR (i : Int) : Int := if (65536 : Int) < (if i < 0 then 0 else i) then 65536 else (if i < 0 then 0 else i)

theorem cloneI_some (ad : Addr) (m c : Nat) (vs : List Value) (w : World) (hr : RdB w (some ad) vs) (hl : vs.length = m) (h1 : ∀ u ∈ vs, u.oneCell' = true) (hm : m ≤ 17592186044000) :
    Calls Try.prog 42 [.slice (some ad) m c].toArray w fun r w' => ∃ x : Nat × Nat × List Value, r = .returned (.slice (some ⟨x.1, 0, none⟩) m x.2.1) ∧ Hp w [] [⟨x.1, 3, vs ++ x.2.2⟩] w' ∧ (vs ++ x.2.2).length = x.2.1 := by
  refine Tr.enter Try.func42 rfl Try.ntmps42 rfl (Hp.refl w) ?_
  refine Tr.seq ?_
  refine Tr.region ?_
  refine Tr.val (V.assign rfl) rfl ?_
  refine Tr.lNil ?_
  refine Tr.thenN ?_
  refine Tr.seq ?_
  refine Tr.seq ?_
  refine Tr.region ?_
  refine Tr.val (V.move rfl) rfl ?_
  refine Tr.val (V.eqlNil Try.runUnderlying40 rfl rfl) rfl ?_
  refine Tr.lNil ?_
  refine Tr.thenN ?_
  refine Tr.condF rfl ?_
  refine Tr.skip ?_
  refine Tr.thenN ?_
  refine Tr.seq ?_
  refine Tr.region ?_
  refine Tr.op (W.build elem40 W.parts0 rfl (by simp) (by omega) rfl fun g0 => ?_)
  refine Tr.val (V.move rfl) rfl ?_
  refine Tr.op (W.append (xs := []) (junk := []) elem40 rfl rfl (RdP.old hr (fun _ _ => by simp)) hl h1 (fun y => .head) rfl rfl (by omega) (by omega) rfl fun g c1 junk hc1 => ?_)
  refine Tr.val (V.assign rfl) rfl ?_
  refine Tr.lNil ?_
  refine Tr.thenN ?_
  refine Tr.ret ?_
  refine Tr.out1 rfl (Res.tmp rfl) fun w hw => ?_
  refine ⟨⟨g, c1, junk⟩, ?_, hw, hc1⟩
  simp only [Nat.zero_add]

theorem newq_any (i : Int) (w : World) : Calls Try.prog 30 [.int .i64 i].toArray w fun r w' => ∃ q : Nat, r = .returned (.pointer (some ⟨q, 0, none⟩)) ∧ Hp w [] [QB q none 0 0 (effR i)] w' ∧ True := by
  refine Tr.enter Try.func30 rfl Try.ntmps30 rfl (Hp.refl w) ?_
  refine Tr.seq ?_
  refine Tr.region ?_
  refine Tr.val (V.assign rfl) rfl ?_
  refine Tr.lNil ?_
  refine Tr.thenN ?_
  refine Tr.seq ?_
  refine Tr.region ?_
  refine Tr.val (V.move rfl) rfl ?_
  refine Tr.val (V.max rfl rfl rfl) rfl ?_
  refine Tr.val (V.min (z := effR i) rfl rfl rfl) rfl ?_
  refine Tr.val (V.buildS (vs := [(1, IV (effR i))]) (pl := #[(0, 1), (1, 1)]) (cs := #[.slice none 0 0, IV (effR i)]) Try.runUnderlying65 Try.zeroValue65 (fun w => by simp [Try.sizeOf40, Try.sizeOf3]) (fun a he => by simp [he.eval (x := .tmp 5) (v := IV (effR i)) rfl]) rfl) rfl ?_
  refine Tr.op (W.box (cs := [.slice none 0 0, IV (effR i)]) rfl rfl rfl fun q => ?_)
  refine Tr.val (V.assign rfl) rfl ?_
  refine Tr.lNil ?_
  refine Tr.thenN ?_
  refine Tr.ret ?_
  refine Tr.out1 rfl (Res.tmp rfl) fun w hw => ?_
  exact ⟨q, rfl, hw, trivial⟩

theorem qlen_any (q : Nat) (p : Option Addr) (m c : Nat) (room : Int) (w : World) (h : Hp w [q] [QB q p m c room] w) :
    Calls Try.prog 33 [.pointer (some ⟨q, 0, none⟩)].toArray w fun r w' => r = .returned (.int .i64 (m : Int)) ∧ Hp w [q] [QB q p m c room] w' := by
  refine Tr.enter Try.func33 rfl Try.ntmps33 rfl h ?_
  refine Tr.seq ?_
  refine Tr.region ?_
  refine Tr.val (V.assign rfl) rfl ?_
  refine Tr.lNil ?_
  refine Tr.thenN ?_
  refine Tr.seq ?_
  refine Tr.region ?_
  refine Tr.val (V.move rfl) rfl ?_
  refine Tr.val (V.nilCheck rfl) rfl ?_
  refine Tr.val (V.fieldS (o' := 0) Try.runUnderlying65 rfl rfl Try.sizeOf40 (by omega) rfl) rfl ?_
  refine Tr.val (V.load1 Try.isAgg40 rfl (V.cellB (by repeat (first | exact List.Mem.head _ | apply List.Mem.tail)) rfl)) rfl ?_
  refine Tr.val (V.len Try.runUnderlying40 rfl) rfl ?_
  refine Tr.val (V.assign rfl) rfl ?_
  refine Tr.lNil ?_
  refine Tr.thenN ?_
  refine Tr.ret ?_
  refine Tr.out1 rfl (Res.tmp rfl) fun w hw => ?_
  exact ⟨rfl, hw⟩

theorem push_full (q : Nat) (p : Option Addr) (m c : Nat) (v : Int) (w : World) (h : Hp w [q] [QB q p m c (m : Int)] w) :
    Calls Try.prog 31 [.pointer (some ⟨q, 0, none⟩), IV v].toArray w fun r w' => r = .returned (.bool false) ∧ Hp w [q] [QB q p m c (m : Int)] w' := by
  refine Tr.enter Try.func31 rfl Try.ntmps31 rfl h ?_
  refine Tr.seq ?_
  refine Tr.region ?_
  refine Tr.val (V.assign rfl) rfl ?_
  refine Tr.lNil ?_
  refine Tr.thenN ?_
  refine Tr.seq ?_
  refine Tr.seq ?_
  refine Tr.regionD [0, 1, 3, 7, 15, 0, 32, 96, 224, 511] [] (.pure 0 (.pure 1 (.pure 2 (.soft 3 (.pure 4 (.pure 5 (.pure 6 (.pure 7 (.soft 8 (.pure 9 .done)))))))))) mixed (by kernel_rfl) ?_
  refine TrP.pure rfl (fun _ => V.move rfl) rfl ?_
  refine TrP.pure rfl (fun _ => V.nilCheck rfl) rfl ?_
  refine TrP.pure rfl (fun _ => V.fieldS (o' := 0) Try.runUnderlying65 rfl rfl Try.sizeOf40 (by omega) rfl) rfl ?_
  refine TrP.soft rfl (V.load1 Try.isAgg40 rfl (V.cellB (by repeat (first | exact List.Mem.head _ | apply List.Mem.tail)) rfl)) rfl ?_
  refine TrP.pure rfl (fun _ => V.len Try.runUnderlying40 rfl) rfl ?_
  refine TrP.pure rfl (fun _ => V.move rfl) rfl ?_
  refine TrP.pure rfl (fun _ => V.nilCheck rfl) rfl ?_
  refine TrP.pure rfl (fun _ => V.fieldS (o' := 1) Try.runUnderlying65 rfl rfl Try.sizeOf3 (by omega) rfl) rfl ?_
  refine TrP.soft rfl (V.load1 Try.isAgg3 rfl (V.cellB (by repeat (first | exact List.Mem.head _ | apply List.Mem.tail)) rfl)) rfl ?_
  refine TrP.pure rfl (fun _ => V.eql (b := true) rfl rfl (decide_eq_true rfl)) rfl ?_
  refine TrP.done ?_
  refine Tr.thenN ?_
  refine Tr.condT rfl ?_
  refine Tr.seq ?_
  refine Tr.region ?_
  refine Tr.val (V.assign rfl) rfl ?_
  refine Tr.lNil ?_
  refine Tr.thenN ?_
  refine Tr.ret ?_
  refine Tr.thenR ?_
  refine Tr.out1 rfl (Res.tmp rfl) fun w hw => ?_
  exact ⟨rfl, hw⟩

theorem push_nil (q : Nat) (room v : Int) (w : World) (hr : room ≠ 0) (h : Hp w [q] [QB q none 0 0 room] w) :
    Calls Try.prog 31 [.pointer (some ⟨q, 0, none⟩), IV v].toArray w fun r w' => ∃ x : Nat × Nat × List Value, r = .returned (.bool true) ∧ Hp w [q] [QB q (some ⟨x.1, 0, none⟩) 1 x.2.1 room, ⟨x.1, 3, [IV v] ++ x.2.2⟩] w' ∧ ([IV v] ++ x.2.2).length = x.2.1 := by
  refine Tr.enter Try.func31 rfl Try.ntmps31 rfl h ?_
  refine Tr.seq ?_
  refine Tr.region ?_
  refine Tr.val (V.assign rfl) rfl ?_
  refine Tr.lNil ?_
  refine Tr.thenN ?_
  refine Tr.seq ?_
  refine Tr.seq ?_
  refine Tr.regionD [0, 1, 3, 7, 15, 0, 32, 96, 224, 511] [] (.pure 0 (.pure 1 (.pure 2 (.soft 3 (.pure 4 (.pure 5 (.pure 6 (.pure 7 (.soft 8 (.pure 9 .done)))))))))) mixed (by kernel_rfl) ?_
  refine TrP.pure rfl (fun _ => V.move rfl) rfl ?_
  refine TrP.pure rfl (fun _ => V.nilCheck rfl) rfl ?_
  refine TrP.pure rfl (fun _ => V.fieldS (o' := 0) Try.runUnderlying65 rfl rfl Try.sizeOf40 (by omega) rfl) rfl ?_
  refine TrP.soft rfl (V.load1 Try.isAgg40 rfl (V.cellB (by repeat (first | exact List.Mem.head _ | apply List.Mem.tail)) rfl)) rfl ?_
  refine TrP.pure rfl (fun _ => V.len Try.runUnderlying40 rfl) rfl ?_
  refine TrP.pure rfl (fun _ => V.move rfl) rfl ?_
  refine TrP.pure rfl (fun _ => V.nilCheck rfl) rfl ?_
  refine TrP.pure rfl (fun _ => V.fieldS (o' := 1) Try.runUnderlying65 rfl rfl Try.sizeOf3 (by omega) rfl) rfl ?_
  refine TrP.soft rfl (V.load1 Try.isAgg3 rfl (V.cellB (by repeat (first | exact List.Mem.head _ | apply List.Mem.tail)) rfl)) rfl ?_
  refine TrP.pure rfl (fun _ => V.eql (b := false) rfl rfl (decide_eq_false (by omega))) rfl ?_
  refine TrP.done ?_
  refine Tr.thenN ?_
  refine Tr.condF rfl ?_
  refine Tr.skip ?_
  refine Tr.thenN ?_
  refine Tr.seq ?_
  refine Tr.region ?_
  refine Tr.val (V.move rfl) rfl ?_
  refine Tr.val (V.move rfl) rfl ?_
  refine Tr.val (V.nilCheck rfl) rfl ?_
  refine Tr.val (V.fieldS (o' := 0) Try.runUnderlying65 rfl rfl Try.sizeOf40 (by omega) rfl) rfl ?_
  refine Tr.val (V.load1 Try.isAgg40 rfl (V.cellB (by repeat (first | exact List.Mem.head _ | apply List.Mem.tail)) rfl)) rfl ?_
  refine Tr.val (V.move rfl) rfl ?_
  refine Tr.op (W.build (vs := [IV v]) elem40 (W.parts1 rfl) rfl (by simp [Value.cells]) (by omega) rfl fun g0 => ?_)
  refine Tr.op (W.appendNil (vs := [IV v]) elem40 rfl rfl (RdP.blk (cs := [IV v]) (List.Mem.head _) 0 1) rfl (by omega) (by omega) (by omega) rfl fun g c1 junk hc1 => ?_)
  refine Tr.val (V.nilCheck rfl) rfl ?_
  refine Tr.val (V.fieldS (o' := 0) Try.runUnderlying65 rfl rfl Try.sizeOf40 (by omega) rfl) rfl ?_
  refine Tr.op (W.store1 Try.sizeOf40 rfl rfl rfl rfl (by repeat (first | exact Upd.head | apply Upd.tail)) (by simp) ?_)
  refine Tr.lNil ?_
  refine Tr.thenN ?_
  refine Tr.seq ?_
  refine Tr.region ?_
  refine Tr.val (V.assign rfl) rfl ?_
  refine Tr.lNil ?_
  refine Tr.thenN ?_
  refine Tr.ret ?_
  refine Tr.out1 rfl (Res.tmp rfl) fun w hw => ?_
  exact ⟨⟨g, c1, junk⟩, rfl, (hw.perm (List.Perm.trans (.cons _ (.swap _ _ _)) (List.Perm.swap _ _ _))).sub (.cons_cons _ (.cons_cons _ (.cons _ .slnil))), hc1⟩

theorem push_own (q g0 m c0 : Nat) (vs junk0 : List Value) (room v : Int) (w : World) (hl : vs.length = m) (hc0 : (vs ++ junk0).length = c0) (hm : m ≤ 17592186044000) (hr : room ≠ (m : Int)) (h : Hp w [q, g0] [QB q (some ⟨g0, 0, none⟩) m c0 room, ⟨g0, 3, vs ++ junk0⟩] w) :
    Calls Try.prog 31 [.pointer (some ⟨q, 0, none⟩), IV v].toArray w fun r w' => ∃ x : Nat × Nat × List Value, r = .returned (.bool true) ∧ Hp w [q, g0] [QB q (some ⟨x.1, 0, none⟩) (m + 1) x.2.1 room, ⟨x.1, 3, vs ++ [IV v] ++ x.2.2⟩] w' ∧ (vs ++ [IV v] ++ x.2.2).length = x.2.1 := by
  refine Tr.enter Try.func31 rfl Try.ntmps31 rfl h ?_
  refine Tr.seq ?_
  refine Tr.region ?_
  refine Tr.val (V.assign rfl) rfl ?_
  refine Tr.lNil ?_
  refine Tr.thenN ?_
  refine Tr.seq ?_
  refine Tr.seq ?_
  refine Tr.regionD [0, 1, 3, 7, 15, 0, 32, 96, 224, 511] [] (.pure 0 (.pure 1 (.pure 2 (.soft 3 (.pure 4 (.pure 5 (.pure 6 (.pure 7 (.soft 8 (.pure 9 .done)))))))))) mixed (by kernel_rfl) ?_
  refine TrP.pure rfl (fun _ => V.move rfl) rfl ?_
  refine TrP.pure rfl (fun _ => V.nilCheck rfl) rfl ?_
  refine TrP.pure rfl (fun _ => V.fieldS (o' := 0) Try.runUnderlying65 rfl rfl Try.sizeOf40 (by omega) rfl) rfl ?_
  refine TrP.soft rfl (V.load1 Try.isAgg40 rfl (V.cellB (by repeat (first | exact List.Mem.head _ | apply List.Mem.tail)) rfl)) rfl ?_
  refine TrP.pure rfl (fun _ => V.len Try.runUnderlying40 rfl) rfl ?_
  refine TrP.pure rfl (fun _ => V.move rfl) rfl ?_
  refine TrP.pure rfl (fun _ => V.nilCheck rfl) rfl ?_
  refine TrP.pure rfl (fun _ => V.fieldS (o' := 1) Try.runUnderlying65 rfl rfl Try.sizeOf3 (by omega) rfl) rfl ?_
  refine TrP.soft rfl (V.load1 Try.isAgg3 rfl (V.cellB (by repeat (first | exact List.Mem.head _ | apply List.Mem.tail)) rfl)) rfl ?_
  refine TrP.pure rfl (fun _ => V.eql (b := false) rfl rfl (decide_eq_false (by omega))) rfl ?_
  refine TrP.done ?_
  refine Tr.thenN ?_
  refine Tr.condF rfl ?_
  refine Tr.skip ?_
  refine Tr.thenN ?_
  refine Tr.seq ?_
  refine Tr.region ?_
  refine Tr.val (V.move rfl) rfl ?_
  refine Tr.val (V.move rfl) rfl ?_
  refine Tr.val (V.nilCheck rfl) rfl ?_
  refine Tr.val (V.fieldS (o' := 0) Try.runUnderlying65 rfl rfl Try.sizeOf40 (by omega) rfl) rfl ?_
  refine Tr.val (V.load1 Try.isAgg40 rfl (V.cellB (by repeat (first | exact List.Mem.head _ | apply List.Mem.tail)) rfl)) rfl ?_
  refine Tr.val (V.move rfl) rfl ?_
  refine Tr.op (W.build (vs := [IV v]) elem40 (W.parts1 rfl) rfl (by simp [Value.cells]) (by omega) rfl fun g1 => ?_)
  refine Tr.op (W.append (vs := [IV v]) elem40 rfl rfl (RdP.blk (cs := [IV v]) (List.Mem.head _) 0 1) rfl (by simp [Value.oneCell']) (fun y => .tail (.tail .head)) hl hc0 (by omega) (by omega) rfl fun g c1 junk hc1 => ?_)
  refine Tr.val (V.nilCheck rfl) rfl ?_
  refine Tr.val (V.fieldS (o' := 0) Try.runUnderlying65 rfl rfl Try.sizeOf40 (by omega) rfl) rfl ?_
  refine Tr.op (W.store1 Try.sizeOf40 rfl rfl rfl rfl (by repeat (first | exact Upd.head | apply Upd.tail)) (by simp) ?_)
  refine Tr.lNil ?_
  refine Tr.thenN ?_
  refine Tr.seq ?_
  refine Tr.region ?_
  refine Tr.val (V.assign rfl) rfl ?_
  refine Tr.lNil ?_
  refine Tr.thenN ?_
  refine Tr.ret ?_
  refine Tr.out1 rfl (Res.tmp rfl) fun w hw => ?_
  exact ⟨⟨g, c1, junk⟩, rfl, hw.sub (.cons _ (List.Sublist.refl _)), hc1⟩

theorem pop_empty (q : Nat) (p : Option Addr) (c : Nat) (room : Int) (w : World) (h : Hp w [q] [QB q p 0 c room] w) :
    Calls Try.prog 32 [.pointer (some ⟨q, 0, none⟩)].toArray w fun r w' => r = .returned (.tuple #[IV 0, .bool false]) ∧ Hp w [q] [QB q p 0 c room] w' := by
  refine Tr.enter Try.func32 rfl Try.ntmps32 rfl h ?_
  refine Tr.seq ?_
  refine Tr.region ?_
  refine Tr.val (V.assign rfl) rfl ?_
  refine Tr.val (V.assign rfl) rfl ?_
  refine Tr.lNil ?_
  refine Tr.thenN ?_
  refine Tr.seq ?_
  refine Tr.seq ?_
  refine Tr.region ?_
  refine Tr.val (V.move rfl) rfl ?_
  refine Tr.val (V.nilCheck rfl) rfl ?_
  refine Tr.val (V.fieldS (o' := 0) Try.runUnderlying65 rfl rfl Try.sizeOf40 (by omega) rfl) rfl ?_
  refine Tr.val (V.load1 Try.isAgg40 rfl (V.cellB (by repeat (first | exact List.Mem.head _ | apply List.Mem.tail)) rfl)) rfl ?_
  refine Tr.val (V.len Try.runUnderlying40 rfl) rfl ?_
  refine Tr.val (V.eql (b := true) rfl rfl (decide_eq_true rfl)) rfl ?_
  refine Tr.lNil ?_
  refine Tr.thenN ?_
  refine Tr.condT rfl ?_
  refine Tr.seq ?_
  refine Tr.region ?_
  refine Tr.val (V.move rfl) rfl ?_
  refine Tr.val (V.assign rfl) rfl ?_
  refine Tr.val (V.assign rfl) rfl ?_
  refine Tr.lNil ?_
  refine Tr.thenN ?_
  refine Tr.ret ?_
  refine Tr.thenR ?_
  refine Tr.out2 rfl (Res.tmp rfl) (Res.tmp rfl) fun w hw => ?_
  exact ⟨rfl, hw⟩

theorem pop_own (q g0 m c0 : Nat) (v : Int) (vs junk0 : List Value) (room : Int) (w : World) (hl : vs.length = m) (hc0 : (IV v :: vs ++ junk0).length = c0) (h1 : ∀ u ∈ vs, u.oneCell' = true) (hm : m ≤ 17592186044000) (h : Hp w [q, g0] [QB q (some ⟨g0, 0, none⟩) (m + 1) c0 room, ⟨g0, 3, IV v :: vs ++ junk0⟩] w) :
    Calls Try.prog 32 [.pointer (some ⟨q, 0, none⟩)].toArray w fun r w' => ∃ x : Nat × Nat × List Value, r = .returned (.tuple #[IV v, .bool true]) ∧ Hp w [q, g0] [QB q (some ⟨x.1, 0, none⟩) m x.2.1 room, ⟨x.1, 3, vs ++ x.2.2⟩] w' ∧ (vs ++ x.2.2).length = x.2.1 := by
  obtain ⟨ad, had, hrd⟩ : ∃ ad, (if c0 = 1 then (some ⟨g0, 0, none⟩ : Option Addr) else (some ⟨g0, 0, none⟩ : Option Addr).map (·.add 1)) = some ad ∧ ∀ L', (⟨g0, 3, IV v :: vs ++ junk0⟩ : Ent) ∈ L' → RdP w [q, g0] L' (some ad) vs := by
    by_cases h1 : c0 = 1
    · rw [if_pos h1]
      refine ⟨_, rfl, fun L' _ => ?_⟩
      obtain rfl : vs = [] := by
        simp at hc0
        exact List.eq_nil_of_length_eq_zero (by omega)
      exact RdP.nil
    · rw [if_neg h1]
      refine ⟨_, rfl, fun L' hm => ?_⟩
      have := (RdP.blk (B := w) (E := [q, g0]) hm 0 c0).part 1 m
      have e1 : ((((IV v :: vs ++ junk0).drop 0).take c0).drop 1).take m = vs := by
        rw [List.drop_zero, List.take_of_length_le (show (IV v :: vs ++ junk0).length ≤ c0 by omega), List.cons_append, List.drop_succ_cons, List.drop_zero, ← hl, List.take_left]
      rw [e1] at this
      exact this
  refine Tr.enter Try.func32 rfl Try.ntmps32 rfl h ?_
  refine Tr.seq ?_
  refine Tr.region ?_
  refine Tr.val (V.assign rfl) rfl ?_
  refine Tr.val (V.assign rfl) rfl ?_
  refine Tr.lNil ?_
  refine Tr.thenN ?_
  refine Tr.seq ?_
  refine Tr.seq ?_
  refine Tr.region ?_
  refine Tr.val (V.move rfl) rfl ?_
  refine Tr.val (V.nilCheck rfl) rfl ?_
  refine Tr.val (V.fieldS (o' := 0) Try.runUnderlying65 rfl rfl Try.sizeOf40 (by omega) rfl) rfl ?_
  refine Tr.val (V.load1 Try.isAgg40 rfl (V.cellB (by repeat (first | exact List.Mem.head _ | apply List.Mem.tail)) rfl)) rfl ?_
  refine Tr.val (V.len Try.runUnderlying40 rfl) rfl ?_
  refine Tr.val (V.eql (b := false) rfl rfl (decide_eq_false (by omega))) rfl ?_
  refine Tr.lNil ?_
  refine Tr.thenN ?_
  refine Tr.condF rfl ?_
  refine Tr.skip ?_
  refine Tr.thenN ?_
  refine Tr.seq ?_
  refine Tr.regionD [0, 0, 2, 6, 14, 30, 62, 0, 128, 384, 896, 1920, 3968, 8190, 16383, 32767, 65535] [16] (.pure 0 (.pure 1 (.pure 2 (.pure 3 (.soft 4 (.pure 5 (.soft 6 (.pure 7 (.pure 8 (.pure 9 (.soft 10 (.pure 11 (.hard 12 (.pure 13 (.pure 14 (.pure 15 (.hard 16 .done))))))))))))))))) mixed (by kernel_rfl) ?_
  refine TrP.pure rfl (fun _ => V.move rfl) rfl ?_
  refine TrP.pure rfl (fun _ => V.move rfl) rfl ?_
  refine TrP.pure rfl (fun _ => V.nilCheck rfl) rfl ?_
  refine TrP.pure rfl (fun _ => V.fieldS (o' := 0) Try.runUnderlying65 rfl rfl Try.sizeOf40 (by omega) rfl) rfl ?_
  refine TrP.soft rfl (V.load1 Try.isAgg40 rfl (V.cellB (by repeat (first | exact List.Mem.head _ | apply List.Mem.tail)) rfl)) rfl ?_
  refine TrP.pure rfl (fun _ => V.idxO (j := 0) Try.runUnderlying40 Try.sizeOf3 rfl rfl rfl (by omega) rfl) rfl ?_
  refine TrP.soft rfl (V.load1 Try.isAgg3 rfl (V.cellB (by repeat (first | exact List.Mem.head _ | apply List.Mem.tail)) rfl)) rfl ?_
  refine TrP.pure rfl (fun _ => V.move rfl) rfl ?_
  refine TrP.pure rfl (fun _ => V.nilCheck rfl) rfl ?_
  refine TrP.pure rfl (fun _ => V.fieldS (o' := 0) Try.runUnderlying65 rfl rfl Try.sizeOf40 (by omega) rfl) rfl ?_
  refine TrP.soft rfl (V.load1 Try.isAgg40 rfl (V.cellB (by repeat (first | exact List.Mem.head _ | apply List.Mem.tail)) rfl)) rfl ?_
  refine TrP.pure rfl (fun _ => (by rw [← had]; exact V.sliceS (l := 1) Try.runUnderlying40 Try.sizeOf3 rfl rfl rfl rfl rfl (by omega) (by simp at hc0; omega) : VOp Try.prog _ _ _ _ _ _ _ (.slice (some ad) (m + 1 - 1) (c0 - 1)))) rfl ?_
  refine TrP.hard rfl (W.call (val := fun x : Nat × Nat × List Value => .slice (some ⟨x.1, 0, none⟩) m x.2.1) (N := fun x => [⟨x.1, 3, vs ++ x.2.2⟩]) (Px := fun x => (vs ++ x.2.2).length = x.2.1)  (args1 rfl) Try.call42 rfl (fun w1 hw => by rw [Nat.add_sub_cancel]; exact cloneI_some ad m (c0 - 1) vs w1 ((hrd _ (by repeat (first | exact List.Mem.head _ | apply List.Mem.tail))).now hw) hl h1 hm) fun x hc1 => ?_)
  refine Tr.pOn (by first | exact List.Sublist.refl _ | exact List.sublist_cons_self _ _ | exact List.sublist_append_right _ _ | simp) ?_
  obtain ⟨g, c1, junk⟩ := x
  simp only at hc1
  refine TrP.pure rfl (fun _ => V.assign rfl) rfl ?_
  refine TrP.pure rfl (fun _ => V.nilCheck rfl) rfl ?_
  refine TrP.pure rfl (fun _ => V.fieldS (o' := 0) Try.runUnderlying65 rfl rfl Try.sizeOf40 (by omega) rfl) rfl ?_
  refine TrP.hard rfl (W.store1 Try.sizeOf40 rfl rfl rfl rfl (by repeat (first | exact Upd.head | apply Upd.tail)) (by simp) ?_)
  refine Tr.pTail rfl ?_
  refine TrP.done ?_
  refine Tr.thenN ?_
  refine Tr.seq ?_
  refine Tr.region ?_
  refine Tr.val (V.move rfl) rfl ?_
  refine Tr.val (V.assign rfl) rfl ?_
  refine Tr.val (V.assign rfl) rfl ?_
  refine Tr.lNil ?_
  refine Tr.thenN ?_
  refine Tr.ret ?_
  refine Tr.out2 rfl (Res.tmp rfl) (Res.tmp rfl) fun w hw => ?_
  exact ⟨⟨g, c1, junk⟩, rfl, (hw.perm (.swap _ _ _)).sub (.cons_cons _ (.cons_cons _ (.cons _ .slnil))), hc1⟩

end Go.Proofs.Ytnhfmmohdiccgaa
