/-
  Contracts of hatchwayref08: Mult, Public. (Printed by a program of this session over its walk printer.)
-/
import Derived.Test.YtgkndcincgpmdaaRef8A
namespace Go.Proofs.Ytgkndcincgpmdaa
open Go.Sym Plain
set_option linter.unusedVariables false
set_option maxRecDepth 20000

set_option maxHeartbeats 1000000 in
theorem rmult_any (pk pu : Option Addr) (ck cu : Nat) (kb ub : List (BitVec 8)) (w : World) (hkb : Bytes w pk 32 ck kb) (hub : Bytes w pu 32 cu ub) :
    Calls Try.prog 14 [.slice pk 32 ck, .slice pu 32 cu].toArray w fun r w' => ∃ g : Nat, r = .returned (.slice (some ⟨g, 0, none⟩) 32 32) ∧ Hp w [] [⟨g, 5, (multL kb ub).map U8⟩] w' ∧ True := by
  have hkl := hkb.length
  have hul := hub.length
  have hp : pk.isSome = true := by
    cases hpk : pk with
    | none => have := (hkb.none hpk).1; omega
    | some _ => rfl
  refine Tr.enter Try.func14 rfl Try.ntmps14 rfl (Hp.refl w) ?_
  refine Tr.seq ?_
  refine Tr.region ?_
  refine Tr.val (V.assign rfl) rfl ?_
  refine Tr.lNil ?_
  refine Tr.thenN ?_
  refine Tr.seq ?_
  refine Tr.region ?_
  refine Tr.val (V.move rfl) rfl ?_
  refine Tr.op (W.callNum (N := (uN ub))  (args1 rfl) Try.call25 rfl (fun w1 hw => by have h := rfrom_any pu cu ub w1 (hub.now hw); exact h) fun g11 c11 junk11 hc11 => ?_)
  refine Tr.val (V.assign rfl) rfl ?_
  refine Tr.lNil ?_
  refine Tr.thenN ?_
  refine Tr.seq ?_
  refine Tr.region ?_
  refine Tr.op (W.build (vs := [NV 1]) elem53 (fun a _ => by simp [Act.eval, List.range'_succ]) rfl (by simp [Value.cells]) (by omega) rfl fun g12 => ?_)
  rw [show (⟨g12, 3, [NV 1]⟩ : Ent) = ⟨g12, 3, (dig 1).map NV ++ []⟩ by rw [dig_one]; rfl, show (Value.slice (some ⟨g12, 0, none⟩) 1 1) = .slice (some ⟨g12, 0, none⟩) (dig 1).length 1 by rw [dig_one]; rfl]
  refine Tr.op (W.build elem53 W.parts0 rfl (by simp) (by omega) rfl fun g13 => ?_)
  rw [show (⟨g13, 3, []⟩ : Ent) = ⟨g13, 3, (dig 0).map NV ++ []⟩ by rw [dig_zero]; rfl, show (Value.slice (some ⟨g13, 0, none⟩) 0 0) = .slice (some ⟨g13, 0, none⟩) (dig 0).length 0 by rw [dig_zero]; rfl]
  refine Tr.val ((V.buildS (vs := [(0, .slice (some ⟨g12, 0, none⟩) (dig 1).length 1), (1, .slice (some ⟨g13, 0, none⟩) (dig 0).length 0)]) (pl := #[(0, 1), (1, 1)]) (cs := [.slice (some ⟨g12, 0, none⟩) (dig 1).length 1, .slice (some ⟨g13, 0, none⟩) (dig 0).length 0].toArray) Try.runUnderlying56 Try.zeroValue56 (fun w => by simp [Try.sizeOf53]) (fun a he => by simp [he.eval (x := .tmp 12) (v := .slice (some ⟨g12, 0, none⟩) (dig 1).length 1) rfl, he.eval (x := .tmp 13) (v := .slice (some ⟨g13, 0, none⟩) (dig 0).length 0) rfl]) rfl)) rfl ?_
  refine Tr.op (W.alloc (cs := [.slice none 0 0, .slice none 0 0]) Try.zeroValue56 rfl rfl fun g6 => ?_)
  refine Tr.op (W.storeAll (vs := [.slice (some ⟨g12, 0, none⟩) (dig 1).length 1, .slice (some ⟨g13, 0, none⟩) (dig 0).length 0]) (cs := [.slice none 0 0, .slice none 0 0]) Try.sizeOf56 rfl rfl rfl rfl (by simp [Value.oneCell']) (by repeat (first | exact Upd.head | apply Upd.tail)) ?_)
  refine Tr.lNil ?_
  refine Tr.thenN ?_
  refine Tr.seq ?_
  refine Tr.region ?_
  refine Tr.val (V.move rfl) rfl ?_
  refine Tr.op (W.build (vs := [NV 1]) elem53 (fun a _ => by simp [Act.eval, List.range'_succ]) rfl (by simp [Value.cells]) (by omega) rfl fun g16 => ?_)
  rw [show (⟨g16, 3, [NV 1]⟩ : Ent) = ⟨g16, 3, (dig 1).map NV ++ []⟩ by rw [dig_one]; rfl, show (Value.slice (some ⟨g16, 0, none⟩) 1 1) = .slice (some ⟨g16, 0, none⟩) (dig 1).length 1 by rw [dig_one]; rfl]
  refine Tr.val ((V.buildS (vs := [(0, .slice (some ⟨g11, 0, none⟩) (dig (uN ub)).length c11), (1, .slice (some ⟨g16, 0, none⟩) (dig 1).length 1)]) (pl := #[(0, 1), (1, 1)]) (cs := [.slice (some ⟨g11, 0, none⟩) (dig (uN ub)).length c11, .slice (some ⟨g16, 0, none⟩) (dig 1).length 1].toArray) Try.runUnderlying56 Try.zeroValue56 (fun w => by simp [Try.sizeOf53]) (fun a he => by simp [he.eval (x := .tmp 15) (v := .slice (some ⟨g11, 0, none⟩) (dig (uN ub)).length c11) rfl, he.eval (x := .tmp 16) (v := .slice (some ⟨g16, 0, none⟩) (dig 1).length 1) rfl]) rfl)) rfl ?_
  refine Tr.op (W.alloc (cs := [.slice none 0 0, .slice none 0 0]) Try.zeroValue56 rfl rfl fun g7 => ?_)
  refine Tr.op (W.storeAll (vs := [.slice (some ⟨g11, 0, none⟩) (dig (uN ub)).length c11, .slice (some ⟨g16, 0, none⟩) (dig 1).length 1]) (cs := [.slice none 0 0, .slice none 0 0]) Try.sizeOf56 rfl rfl rfl rfl (by simp [Value.oneCell']) (by repeat (first | exact Upd.head | apply Upd.tail)) ?_)
  refine Tr.lNil ?_
  refine Tr.thenN ?_
  refine Tr.seq ?_
  refine Tr.seq ?_
  refine Tr.region ?_
  refine Tr.val (V.assign rfl) rfl ?_
  refine Tr.lNil ?_
  refine Tr.thenN ?_
  refine Tr.block ?_
  refine Tr.permL (List.Perm.cons _ (List.Perm.swap _ _ _)) ?_
  refine Tr.loop (ι := MS) (fun x => x.k ≤ 255 ∧ RowIn w x.R (some ⟨g11, 0, none⟩) c11 (uN ub) ∧ RowIn w x.R x.p1 x.c1 (ladN (clampL kb) (uN ub) x.k).1.x ∧ RowIn w x.R x.p2 x.c2 (ladN (clampL kb) (uN ub) x.k).1.z ∧ RowIn w x.R x.p3 x.c3 (ladN (clampL kb) (uN ub) x.k).2.x ∧ RowIn w x.R x.p4 x.c4 (ladN (clampL kb) (uN ub) x.k).2.z) (fun x => [(0, .slice pk 32 ck), (5, .slice (some ⟨g11, 0, none⟩) (dig (uN ub)).length c11), (6, .pointer (some ⟨g6, 0, none⟩)), (7, .pointer (some ⟨g7, 0, none⟩)), (8, .int .i64 (254 - (x.k : Int)))]) (fun x => ⟨g7, 56, [.slice x.p3 (dig (ladN (clampL kb) (uN ub) x.k).2.x).length x.c3, .slice x.p4 (dig (ladN (clampL kb) (uN ub) x.k).2.z).length x.c4]⟩ :: ⟨g6, 56, [.slice x.p1 (dig (ladN (clampL kb) (uN ub) x.k).1.x).length x.c1, .slice x.p2 (dig (ladN (clampL kb) (uN ub) x.k).1.z).length x.c2]⟩ :: x.R) (fun x => 255 - x.k) (⟨0, [⟨g16, 3, (dig 1).map NV ++ []⟩, ⟨g13, 3, (dig 0).map NV ++ []⟩, ⟨g12, 3, (dig 1).map NV ++ []⟩, ⟨g11, 3, (dig (uN ub)).map NV ++ junk11⟩], some ⟨g12, 0, none⟩, 1, some ⟨g13, 0, none⟩, 0, (some ⟨g11, 0, none⟩), c11, some ⟨g16, 0, none⟩, 1⟩ : MS) ⟨by simp only; omega, RowIn.own (ti := 3) (.tail _ (.tail _ (.tail _ (.head _)))) hc11, RowIn.own (ti := 3) (junk := []) (.tail _ (.tail _ (.head _))) (by rw [show (ladN (clampL kb) (uN ub) 0).1.x = 1 from rfl, dig_one]; rfl), RowIn.own (ti := 3) (junk := []) (.tail _ (.head _)) (by rw [show (ladN (clampL kb) (uN ub) 0).1.z = 0 from rfl, dig_zero]; rfl), RowIn.own (ti := 3) (.tail _ (.tail _ (.tail _ (.head _)))) hc11, RowIn.own (ti := 3) (junk := []) (.head _) (by rw [show (ladN (clampL kb) (uN ub) 0).2.z = 1 from rfl, dig_one]; rfl)⟩ (lk_cons rfl (lk_cons rfl (lk_cons rfl (lk_cons rfl (lk_cons rfl (lk_nil _)))))) (List.Sublist.refl _) fun x hI => ?_
  obtain ⟨k, R, p1, c1, p2, c2, p3, c3, p4, c4⟩ := x
  obtain ⟨hk, hsu, hs1, hs2, hs3, hs4⟩ := hI
  simp only at hk hsu hs1 hs2 hs3 hs4 ⊢
  obtain ⟨st, hst⟩ : ∃ st, st = ladN (clampL kb) (uN ub) k := ⟨_, rfl⟩
  have hlt := ladN_lt4 (clampL kb) (uN ub) (uN_below ub) k
  rw [← hst] at hs1 hs2 hs3 hs4 hlt ⊢
  have h5 : k = 0 ∨ (∃ s, 254 - (k : Int) = ((s : Nat) : Int) ∧ 3 ≤ s ∧ s < 254 ∧ bitK kb s = true) ∨ (∃ s, 254 - (k : Int) = ((s : Nat) : Int) ∧ 3 ≤ s ∧ s < 254 ∧ bitK kb s = false) ∨ (∃ s, 254 - (k : Int) = ((s : Nat) : Int) ∧ s < 3) ∨ k = 255 := by
    by_cases h0 : k = 0
    · exact .inl h0
    · by_cases h1 : k = 255
      · exact .inr (.inr (.inr (.inr h1)))
      · have hs : 254 - (k : Int) = ((254 - k : Nat) : Int) := by omega
        by_cases h2 : 254 - k < 3
        · exact .inr (.inr (.inr (.inl ⟨_, hs, h2⟩)))
        · cases hb : bitK kb (254 - k)
          · exact .inr (.inr (.inl ⟨_, hs, by omega, by omega, hb⟩))
          · exact .inr (.inl ⟨_, hs, by omega, by omega, hb⟩)
  rcases h5 with h0 | ⟨s, hs, h3, h254, hbt⟩ | ⟨s, hs, h3, h254, hbt⟩ | ⟨s, hs, h3⟩ | rfl
  · have hs : 254 - (k : Int) = ((254 : Nat) : Int) := by omega
    obtain ⟨s, hs254⟩ : ∃ s : Nat, s = 254 := ⟨_, rfl⟩
    rw [← hs254] at hs
    rw [hs]
    have hs8 : s / 8 < 32 := by omega
    have hbc := bit_clamp kb hkl s (by omega)
    have hnx : ladN (clampL kb) (uN ub) (k + 1) = (addN (uN ub) st.2 st.1, dblN st.2) := by rw [ladN, ← hst, show 254 - k = s by omega, hbc, if_neg (by omega), if_pos hs254]; rfl
    refine Tr.seq ?_
    refine Tr.seq ?_
    refine Tr.region ?_
    refine Tr.val (V.move rfl) rfl ?_
    refine Tr.val (V.geq (b := true) rfl rfl (decide_eq_true (by omega))) rfl ?_
    refine Tr.lNil ?_
    refine Tr.thenN ?_
    refine Tr.condT rfl ?_
    refine Tr.skip ?_
    refine Tr.thenN ?_
    refine Tr.seq ?_
    refine Tr.block ?_
    refine Tr.seq ?_
    refine Tr.region ?_
    refine Tr.val (V.move rfl) rfl ?_
    refine Tr.val (V.move rfl) rfl ?_
    refine Tr.val (V.quoN (b := 8) rfl rfl (by omega) (by omega)) rfl ?_
    refine Tr.val (V.idxS (j := (s / 8)) Try.runUnderlying29 Try.sizeOf5 rfl rfl (by omega) (by omega) hp) rfl ?_
    refine Tr.val (V.load1 Try.isAgg5 rfl (V.cellR hkb.old (getB kb (s / 8) (by omega)))) rfl ?_
    refine Tr.val (V.move rfl) rfl ?_
    refine Tr.val (V.remN (b := 8) rfl rfl (by omega)) rfl ?_
    refine Tr.val (V.convN_64 Try.runUnderlying3 Try.runUnderlying57 rfl (by omega) (by omega)) rfl ?_
    refine Tr.val (V.shr8 (s := s % 8) rfl rfl) rfl ?_
    refine Tr.val (V.and8 (Y := 1#8) rfl rfl) rfl ?_
    refine Tr.val (V.eql8 (Y := 1#8) (b := bitK kb s) rfl rfl rfl) rfl ?_
    refine Tr.val (V.assign rfl) rfl ?_
    refine Tr.lNil ?_
    refine Tr.thenN ?_
    refine Tr.seq ?_
    refine Tr.seq ?_
    refine Tr.region ?_
    refine Tr.val (V.move rfl) rfl ?_
    refine Tr.val (V.eql (b := true) rfl rfl (decide_eq_true (by omega))) rfl ?_
    refine Tr.lNil ?_
    refine Tr.thenN ?_
    refine Tr.condT rfl ?_
    refine Tr.region ?_
    refine Tr.val (V.assign rfl) rfl ?_
    refine Tr.lNil ?_
    refine Tr.thenN ?_
    refine Tr.seq ?_
    refine Tr.seq ?_
    refine Tr.region ?_
    refine Tr.val (V.move rfl) rfl ?_
    refine Tr.val (V.lss (b := false) rfl rfl (decide_eq_false (by omega))) rfl ?_
    refine Tr.lNil ?_
    refine Tr.thenN ?_
    refine Tr.condF rfl ?_
    refine Tr.skip ?_
    refine Tr.thenN ?_
    refine Tr.seq ?_
    refine Tr.region ?_
    refine Tr.val (V.move rfl) rfl ?_
    refine Tr.lNil ?_
    refine Tr.thenN ?_
    refine Tr.condT rfl ?_
    refine Tr.region ?_
    refine Tr.val (V.move rfl) rfl ?_
    refine Tr.val (V.loadN (cs := [.slice p3 (dig st.2.x).length c3, .slice p4 (dig st.2.z).length c4]) Try.isAgg56 Try.sizeOf56 rfl (V.cellsB (by repeat (first | exact List.Mem.head _ | apply List.Mem.tail)))) rfl ?_
    refine Tr.val (V.loadN (cs := [.slice p1 (dig st.1.x).length c1, .slice p2 (dig st.1.z).length c2]) Try.isAgg56 Try.sizeOf56 rfl (V.cellsB (by repeat (first | exact List.Mem.head _ | apply List.Mem.tail)))) rfl ?_
    refine Tr.op (W.call (val := fun x : Rw × Rw × Rw × Rw => .tuple #[.agg #[x.1.v (dblN st.2).x, x.2.1.v (dblN st.2).z], .agg #[x.2.2.1.v (addN (uN ub) st.2 st.1).x, x.2.2.2.v (addN (uN ub) st.2 st.1).z]]) (N := fun x => [x.2.2.2.e 3 (addN (uN ub) st.2 st.1).z, x.2.2.1.e 3 (addN (uN ub) st.2 st.1).x, x.2.1.e 3 (dblN st.2).z, x.1.e 3 (dblN st.2).x]) (Px := fun x => x.1.ok (dblN st.2).x ∧ x.2.1.ok (dblN st.2).z ∧ x.2.2.1.ok (addN (uN ub) st.2 st.1).x ∧ x.2.2.2.ok (addN (uN ub) st.2 st.1).z)  (args3 rfl rfl rfl) Try.call26 rfl (fun w1 hw => rstep_any (some ⟨g11, 0, none⟩) p3 p4 p1 p2 c11 c3 c4 c1 c2 (uN ub) st.2.x st.2.z st.1.x st.1.z w1 (hsu _ w1 (fun y hy => .tail _ (.tail _ hy)) hw) (hs3 _ w1 (fun y hy => .tail _ (.tail _ hy)) hw) (hs4 _ w1 (fun y hy => .tail _ (.tail _ hy)) hw) (hs1 _ w1 (fun y hy => .tail _ (.tail _ hy)) hw) (hs2 _ w1 (fun y hy => .tail _ (.tail _ hy)) hw) (uN_below ub) hlt.2.2.1 hlt.2.2.2 hlt.1 hlt.2.1) fun y hy => ?_)
    refine Tr.val (V.move rfl) rfl ?_
    refine Tr.val (V.extract rfl rfl) rfl ?_
    refine Tr.val (V.extract rfl rfl) rfl ?_
    refine Tr.op (W.storeAll (vs := [y.1.v (dblN st.2).x, y.2.1.v (dblN st.2).z]) (cs := [.slice p3 (dig st.2.x).length c3, .slice p4 (dig st.2.z).length c4]) Try.sizeOf56 rfl rfl rfl rfl (by simp [Value.oneCell']) (by repeat (first | exact Upd.head | apply Upd.tail)) ?_)
    refine Tr.op (W.storeAll (vs := [y.2.2.1.v (addN (uN ub) st.2 st.1).x, y.2.2.2.v (addN (uN ub) st.2 st.1).z]) (cs := [.slice p1 (dig st.1.x).length c1, .slice p2 (dig st.1.z).length c2]) Try.sizeOf56 rfl rfl rfl rfl (by simp [Value.oneCell']) (by repeat (first | exact Upd.head | apply Upd.tail)) ?_)
    refine Tr.lNil ?_
    refine Tr.inN ?_
    refine Tr.thenN ?_
    refine Tr.region ?_
    refine Tr.val (V.move rfl) rfl ?_
    refine Tr.val (V.sub rfl rfl (by omega)) rfl ?_
    refine Tr.val (V.assign rfl) rfl ?_
    refine Tr.lNil ?_
    refine Tr.permL (perm42 _ _ _ _ _ _ _) ?_
    exact Tr.again (⟨k + 1, y.2.2.2.e 3 (addN (uN ub) st.2 st.1).z :: y.2.2.1.e 3 (addN (uN ub) st.2 st.1).x :: y.2.1.e 3 (dblN st.2).z :: y.1.e 3 (dblN st.2).x :: R, some ⟨y.2.2.1.g, 0, none⟩, y.2.2.1.c, some ⟨y.2.2.2.g, 0, none⟩, y.2.2.2.c, some ⟨y.1.g, 0, none⟩, y.1.c, some ⟨y.2.1.g, 0, none⟩, y.2.1.c⟩ : MS) ⟨by simp only; omega, hsu.mono (fun z hz => by simp [hz]), (by simp only [hnx]; exact RowIn.row (r := y.2.2.1) (ti := 3) (by simp) hy.2.2.1), (by simp only [hnx]; exact RowIn.row (r := y.2.2.2) (ti := 3) (by simp) hy.2.2.2), (by simp only [hnx]; exact RowIn.row (r := y.1) (ti := 3) (by simp) hy.1), (by simp only [hnx]; exact RowIn.row (r := y.2.1) (ti := 3) (by simp) hy.2.1)⟩ (by simp only; omega) (lk_cons rfl (lk_cons rfl (lk_cons rfl (lk_cons rfl (lk_cons (congrArg some (congrArg (Value.int .i64) (by simp only; omega))) (lk_nil _)))))) (by simp only [hnx]; exact List.Sublist.refl _)
  · rw [hs]
    have hs8 : s / 8 < 32 := by omega
    have hbc := bit_clamp kb hkl s (by omega)
    have hnx : ladN (clampL kb) (uN ub) (k + 1) = (addN (uN ub) st.2 st.1, dblN st.2) := by rw [ladN, ← hst, show 254 - k = s by omega, hbc, if_neg (by omega), if_neg (by omega), hbt]; rfl
    refine Tr.seq ?_
    refine Tr.seq ?_
    refine Tr.region ?_
    refine Tr.val (V.move rfl) rfl ?_
    refine Tr.val (V.geq (b := true) rfl rfl (decide_eq_true (by omega))) rfl ?_
    refine Tr.lNil ?_
    refine Tr.thenN ?_
    refine Tr.condT rfl ?_
    refine Tr.skip ?_
    refine Tr.thenN ?_
    refine Tr.seq ?_
    refine Tr.block ?_
    refine Tr.seq ?_
    refine Tr.region ?_
    refine Tr.val (V.move rfl) rfl ?_
    refine Tr.val (V.move rfl) rfl ?_
    refine Tr.val (V.quoN (b := 8) rfl rfl (by omega) (by omega)) rfl ?_
    refine Tr.val (V.idxS (j := (s / 8)) Try.runUnderlying29 Try.sizeOf5 rfl rfl (by omega) (by omega) hp) rfl ?_
    refine Tr.val (V.load1 Try.isAgg5 rfl (V.cellR hkb.old (getB kb (s / 8) (by omega)))) rfl ?_
    refine Tr.val (V.move rfl) rfl ?_
    refine Tr.val (V.remN (b := 8) rfl rfl (by omega)) rfl ?_
    refine Tr.val (V.convN_64 Try.runUnderlying3 Try.runUnderlying57 rfl (by omega) (by omega)) rfl ?_
    refine Tr.val (V.shr8 (s := s % 8) rfl rfl) rfl ?_
    refine Tr.val (V.and8 (Y := 1#8) rfl rfl) rfl ?_
    refine Tr.val (V.eql8 (Y := 1#8) (b := true) rfl rfl hbt) rfl ?_
    refine Tr.val (V.assign rfl) rfl ?_
    refine Tr.lNil ?_
    refine Tr.thenN ?_
    refine Tr.seq ?_
    refine Tr.seq ?_
    refine Tr.region ?_
    refine Tr.val (V.move rfl) rfl ?_
    refine Tr.val (V.eql (b := false) rfl rfl (decide_eq_false (by omega))) rfl ?_
    refine Tr.lNil ?_
    refine Tr.thenN ?_
    refine Tr.condF rfl ?_
    refine Tr.skip ?_
    refine Tr.thenN ?_
    refine Tr.seq ?_
    refine Tr.seq ?_
    refine Tr.region ?_
    refine Tr.val (V.move rfl) rfl ?_
    refine Tr.val (V.lss (b := false) rfl rfl (decide_eq_false (by omega))) rfl ?_
    refine Tr.lNil ?_
    refine Tr.thenN ?_
    refine Tr.condF rfl ?_
    refine Tr.skip ?_
    refine Tr.thenN ?_
    refine Tr.seq ?_
    refine Tr.region ?_
    refine Tr.val (V.move rfl) rfl ?_
    refine Tr.lNil ?_
    refine Tr.thenN ?_
    refine Tr.condT rfl ?_
    refine Tr.region ?_
    refine Tr.val (V.move rfl) rfl ?_
    refine Tr.val (V.loadN (cs := [.slice p3 (dig st.2.x).length c3, .slice p4 (dig st.2.z).length c4]) Try.isAgg56 Try.sizeOf56 rfl (V.cellsB (by repeat (first | exact List.Mem.head _ | apply List.Mem.tail)))) rfl ?_
    refine Tr.val (V.loadN (cs := [.slice p1 (dig st.1.x).length c1, .slice p2 (dig st.1.z).length c2]) Try.isAgg56 Try.sizeOf56 rfl (V.cellsB (by repeat (first | exact List.Mem.head _ | apply List.Mem.tail)))) rfl ?_
    refine Tr.op (W.call (val := fun x : Rw × Rw × Rw × Rw => .tuple #[.agg #[x.1.v (dblN st.2).x, x.2.1.v (dblN st.2).z], .agg #[x.2.2.1.v (addN (uN ub) st.2 st.1).x, x.2.2.2.v (addN (uN ub) st.2 st.1).z]]) (N := fun x => [x.2.2.2.e 3 (addN (uN ub) st.2 st.1).z, x.2.2.1.e 3 (addN (uN ub) st.2 st.1).x, x.2.1.e 3 (dblN st.2).z, x.1.e 3 (dblN st.2).x]) (Px := fun x => x.1.ok (dblN st.2).x ∧ x.2.1.ok (dblN st.2).z ∧ x.2.2.1.ok (addN (uN ub) st.2 st.1).x ∧ x.2.2.2.ok (addN (uN ub) st.2 st.1).z)  (args3 rfl rfl rfl) Try.call26 rfl (fun w1 hw => rstep_any (some ⟨g11, 0, none⟩) p3 p4 p1 p2 c11 c3 c4 c1 c2 (uN ub) st.2.x st.2.z st.1.x st.1.z w1 (hsu _ w1 (fun y hy => .tail _ (.tail _ hy)) hw) (hs3 _ w1 (fun y hy => .tail _ (.tail _ hy)) hw) (hs4 _ w1 (fun y hy => .tail _ (.tail _ hy)) hw) (hs1 _ w1 (fun y hy => .tail _ (.tail _ hy)) hw) (hs2 _ w1 (fun y hy => .tail _ (.tail _ hy)) hw) (uN_below ub) hlt.2.2.1 hlt.2.2.2 hlt.1 hlt.2.1) fun y hy => ?_)
    refine Tr.val (V.move rfl) rfl ?_
    refine Tr.val (V.extract rfl rfl) rfl ?_
    refine Tr.val (V.extract rfl rfl) rfl ?_
    refine Tr.op (W.storeAll (vs := [y.1.v (dblN st.2).x, y.2.1.v (dblN st.2).z]) (cs := [.slice p3 (dig st.2.x).length c3, .slice p4 (dig st.2.z).length c4]) Try.sizeOf56 rfl rfl rfl rfl (by simp [Value.oneCell']) (by repeat (first | exact Upd.head | apply Upd.tail)) ?_)
    refine Tr.op (W.storeAll (vs := [y.2.2.1.v (addN (uN ub) st.2 st.1).x, y.2.2.2.v (addN (uN ub) st.2 st.1).z]) (cs := [.slice p1 (dig st.1.x).length c1, .slice p2 (dig st.1.z).length c2]) Try.sizeOf56 rfl rfl rfl rfl (by simp [Value.oneCell']) (by repeat (first | exact Upd.head | apply Upd.tail)) ?_)
    refine Tr.lNil ?_
    refine Tr.inN ?_
    refine Tr.thenN ?_
    refine Tr.region ?_
    refine Tr.val (V.move rfl) rfl ?_
    refine Tr.val (V.sub rfl rfl (by omega)) rfl ?_
    refine Tr.val (V.assign rfl) rfl ?_
    refine Tr.lNil ?_
    refine Tr.permL (perm42 _ _ _ _ _ _ _) ?_
    exact Tr.again (⟨k + 1, y.2.2.2.e 3 (addN (uN ub) st.2 st.1).z :: y.2.2.1.e 3 (addN (uN ub) st.2 st.1).x :: y.2.1.e 3 (dblN st.2).z :: y.1.e 3 (dblN st.2).x :: R, some ⟨y.2.2.1.g, 0, none⟩, y.2.2.1.c, some ⟨y.2.2.2.g, 0, none⟩, y.2.2.2.c, some ⟨y.1.g, 0, none⟩, y.1.c, some ⟨y.2.1.g, 0, none⟩, y.2.1.c⟩ : MS) ⟨by simp only; omega, hsu.mono (fun z hz => by simp [hz]), (by simp only [hnx]; exact RowIn.row (r := y.2.2.1) (ti := 3) (by simp) hy.2.2.1), (by simp only [hnx]; exact RowIn.row (r := y.2.2.2) (ti := 3) (by simp) hy.2.2.2), (by simp only [hnx]; exact RowIn.row (r := y.1) (ti := 3) (by simp) hy.1), (by simp only [hnx]; exact RowIn.row (r := y.2.1) (ti := 3) (by simp) hy.2.1)⟩ (by simp only; omega) (lk_cons rfl (lk_cons rfl (lk_cons rfl (lk_cons rfl (lk_cons (congrArg some (congrArg (Value.int .i64) (by simp only; omega))) (lk_nil _)))))) (by simp only [hnx]; exact List.Sublist.refl _)
  · rw [hs]
    have hs8 : s / 8 < 32 := by omega
    have hbc := bit_clamp kb hkl s (by omega)
    have hnx : ladN (clampL kb) (uN ub) (k + 1) = (dblN st.1, addN (uN ub) st.1 st.2) := by rw [ladN, ← hst, show 254 - k = s by omega, hbc, if_neg (by omega), if_neg (by omega), hbt]; rfl
    refine Tr.seq ?_
    refine Tr.seq ?_
    refine Tr.region ?_
    refine Tr.val (V.move rfl) rfl ?_
    refine Tr.val (V.geq (b := true) rfl rfl (decide_eq_true (by omega))) rfl ?_
    refine Tr.lNil ?_
    refine Tr.thenN ?_
    refine Tr.condT rfl ?_
    refine Tr.skip ?_
    refine Tr.thenN ?_
    refine Tr.seq ?_
    refine Tr.block ?_
    refine Tr.seq ?_
    refine Tr.region ?_
    refine Tr.val (V.move rfl) rfl ?_
    refine Tr.val (V.move rfl) rfl ?_
    refine Tr.val (V.quoN (b := 8) rfl rfl (by omega) (by omega)) rfl ?_
    refine Tr.val (V.idxS (j := (s / 8)) Try.runUnderlying29 Try.sizeOf5 rfl rfl (by omega) (by omega) hp) rfl ?_
    refine Tr.val (V.load1 Try.isAgg5 rfl (V.cellR hkb.old (getB kb (s / 8) (by omega)))) rfl ?_
    refine Tr.val (V.move rfl) rfl ?_
    refine Tr.val (V.remN (b := 8) rfl rfl (by omega)) rfl ?_
    refine Tr.val (V.convN_64 Try.runUnderlying3 Try.runUnderlying57 rfl (by omega) (by omega)) rfl ?_
    refine Tr.val (V.shr8 (s := s % 8) rfl rfl) rfl ?_
    refine Tr.val (V.and8 (Y := 1#8) rfl rfl) rfl ?_
    refine Tr.val (V.eql8 (Y := 1#8) (b := false) rfl rfl hbt) rfl ?_
    refine Tr.val (V.assign rfl) rfl ?_
    refine Tr.lNil ?_
    refine Tr.thenN ?_
    refine Tr.seq ?_
    refine Tr.seq ?_
    refine Tr.region ?_
    refine Tr.val (V.move rfl) rfl ?_
    refine Tr.val (V.eql (b := false) rfl rfl (decide_eq_false (by omega))) rfl ?_
    refine Tr.lNil ?_
    refine Tr.thenN ?_
    refine Tr.condF rfl ?_
    refine Tr.skip ?_
    refine Tr.thenN ?_
    refine Tr.seq ?_
    refine Tr.seq ?_
    refine Tr.region ?_
    refine Tr.val (V.move rfl) rfl ?_
    refine Tr.val (V.lss (b := false) rfl rfl (decide_eq_false (by omega))) rfl ?_
    refine Tr.lNil ?_
    refine Tr.thenN ?_
    refine Tr.condF rfl ?_
    refine Tr.skip ?_
    refine Tr.thenN ?_
    refine Tr.seq ?_
    refine Tr.region ?_
    refine Tr.val (V.move rfl) rfl ?_
    refine Tr.lNil ?_
    refine Tr.thenN ?_
    refine Tr.condF rfl ?_
    refine Tr.region ?_
    refine Tr.val (V.move rfl) rfl ?_
    refine Tr.val (V.loadN (cs := [.slice p1 (dig st.1.x).length c1, .slice p2 (dig st.1.z).length c2]) Try.isAgg56 Try.sizeOf56 rfl (V.cellsB (by repeat (first | exact List.Mem.head _ | apply List.Mem.tail)))) rfl ?_
    refine Tr.val (V.loadN (cs := [.slice p3 (dig st.2.x).length c3, .slice p4 (dig st.2.z).length c4]) Try.isAgg56 Try.sizeOf56 rfl (V.cellsB (by repeat (first | exact List.Mem.head _ | apply List.Mem.tail)))) rfl ?_
    refine Tr.op (W.call (val := fun x : Rw × Rw × Rw × Rw => .tuple #[.agg #[x.1.v (dblN st.1).x, x.2.1.v (dblN st.1).z], .agg #[x.2.2.1.v (addN (uN ub) st.1 st.2).x, x.2.2.2.v (addN (uN ub) st.1 st.2).z]]) (N := fun x => [x.2.2.2.e 3 (addN (uN ub) st.1 st.2).z, x.2.2.1.e 3 (addN (uN ub) st.1 st.2).x, x.2.1.e 3 (dblN st.1).z, x.1.e 3 (dblN st.1).x]) (Px := fun x => x.1.ok (dblN st.1).x ∧ x.2.1.ok (dblN st.1).z ∧ x.2.2.1.ok (addN (uN ub) st.1 st.2).x ∧ x.2.2.2.ok (addN (uN ub) st.1 st.2).z)  (args3 rfl rfl rfl) Try.call26 rfl (fun w1 hw => rstep_any (some ⟨g11, 0, none⟩) p1 p2 p3 p4 c11 c1 c2 c3 c4 (uN ub) st.1.x st.1.z st.2.x st.2.z w1 (hsu _ w1 (fun y hy => .tail _ (.tail _ hy)) hw) (hs1 _ w1 (fun y hy => .tail _ (.tail _ hy)) hw) (hs2 _ w1 (fun y hy => .tail _ (.tail _ hy)) hw) (hs3 _ w1 (fun y hy => .tail _ (.tail _ hy)) hw) (hs4 _ w1 (fun y hy => .tail _ (.tail _ hy)) hw) (uN_below ub) hlt.1 hlt.2.1 hlt.2.2.1 hlt.2.2.2) fun y hy => ?_)
    refine Tr.val (V.move rfl) rfl ?_
    refine Tr.val (V.extract rfl rfl) rfl ?_
    refine Tr.val (V.extract rfl rfl) rfl ?_
    refine Tr.op (W.storeAll (vs := [y.1.v (dblN st.1).x, y.2.1.v (dblN st.1).z]) (cs := [.slice p1 (dig st.1.x).length c1, .slice p2 (dig st.1.z).length c2]) Try.sizeOf56 rfl rfl rfl rfl (by simp [Value.oneCell']) (by repeat (first | exact Upd.head | apply Upd.tail)) ?_)
    refine Tr.op (W.storeAll (vs := [y.2.2.1.v (addN (uN ub) st.1 st.2).x, y.2.2.2.v (addN (uN ub) st.1 st.2).z]) (cs := [.slice p3 (dig st.2.x).length c3, .slice p4 (dig st.2.z).length c4]) Try.sizeOf56 rfl rfl rfl rfl (by simp [Value.oneCell']) (by repeat (first | exact Upd.head | apply Upd.tail)) ?_)
    refine Tr.lNil ?_
    refine Tr.inN ?_
    refine Tr.thenN ?_
    refine Tr.region ?_
    refine Tr.val (V.move rfl) rfl ?_
    refine Tr.val (V.sub rfl rfl (by omega)) rfl ?_
    refine Tr.val (V.assign rfl) rfl ?_
    refine Tr.lNil ?_
    refine Tr.permL (perm42 _ _ _ _ _ _ _) ?_
    exact Tr.again (⟨k + 1, y.2.2.2.e 3 (addN (uN ub) st.1 st.2).z :: y.2.2.1.e 3 (addN (uN ub) st.1 st.2).x :: y.2.1.e 3 (dblN st.1).z :: y.1.e 3 (dblN st.1).x :: R, some ⟨y.1.g, 0, none⟩, y.1.c, some ⟨y.2.1.g, 0, none⟩, y.2.1.c, some ⟨y.2.2.1.g, 0, none⟩, y.2.2.1.c, some ⟨y.2.2.2.g, 0, none⟩, y.2.2.2.c⟩ : MS) ⟨by simp only; omega, hsu.mono (fun z hz => by simp [hz]), (by simp only [hnx]; exact RowIn.row (r := y.1) (ti := 3) (by simp) hy.1), (by simp only [hnx]; exact RowIn.row (r := y.2.1) (ti := 3) (by simp) hy.2.1), (by simp only [hnx]; exact RowIn.row (r := y.2.2.1) (ti := 3) (by simp) hy.2.2.1), (by simp only [hnx]; exact RowIn.row (r := y.2.2.2) (ti := 3) (by simp) hy.2.2.2)⟩ (by simp only; omega) (lk_cons rfl (lk_cons rfl (lk_cons rfl (lk_cons rfl (lk_cons (congrArg some (congrArg (Value.int .i64) (by simp only; omega))) (lk_nil _)))))) (by simp only [hnx]; exact List.Sublist.refl _)
  · rw [hs]
    have hs8 : s / 8 < 32 := by omega
    have hbc := bit_clamp kb hkl s (by omega)
    have hnx : ladN (clampL kb) (uN ub) (k + 1) = (dblN st.1, addN (uN ub) st.1 st.2) := by rw [ladN, ← hst, show 254 - k = s by omega, hbc, if_pos h3]; rfl
    refine Tr.seq ?_
    refine Tr.seq ?_
    refine Tr.region ?_
    refine Tr.val (V.move rfl) rfl ?_
    refine Tr.val (V.geq (b := true) rfl rfl (decide_eq_true (by omega))) rfl ?_
    refine Tr.lNil ?_
    refine Tr.thenN ?_
    refine Tr.condT rfl ?_
    refine Tr.skip ?_
    refine Tr.thenN ?_
    refine Tr.seq ?_
    refine Tr.block ?_
    refine Tr.seq ?_
    refine Tr.region ?_
    refine Tr.val (V.move rfl) rfl ?_
    refine Tr.val (V.move rfl) rfl ?_
    refine Tr.val (V.quoN (b := 8) rfl rfl (by omega) (by omega)) rfl ?_
    refine Tr.val (V.idxS (j := (s / 8)) Try.runUnderlying29 Try.sizeOf5 rfl rfl (by omega) (by omega) hp) rfl ?_
    refine Tr.val (V.load1 Try.isAgg5 rfl (V.cellR hkb.old (getB kb (s / 8) (by omega)))) rfl ?_
    refine Tr.val (V.move rfl) rfl ?_
    refine Tr.val (V.remN (b := 8) rfl rfl (by omega)) rfl ?_
    refine Tr.val (V.convN_64 Try.runUnderlying3 Try.runUnderlying57 rfl (by omega) (by omega)) rfl ?_
    refine Tr.val (V.shr8 (s := s % 8) rfl rfl) rfl ?_
    refine Tr.val (V.and8 (Y := 1#8) rfl rfl) rfl ?_
    refine Tr.val (V.eql8 (Y := 1#8) (b := bitK kb s) rfl rfl rfl) rfl ?_
    refine Tr.val (V.assign rfl) rfl ?_
    refine Tr.lNil ?_
    refine Tr.thenN ?_
    refine Tr.seq ?_
    refine Tr.seq ?_
    refine Tr.region ?_
    refine Tr.val (V.move rfl) rfl ?_
    refine Tr.val (V.eql (b := false) rfl rfl (decide_eq_false (by omega))) rfl ?_
    refine Tr.lNil ?_
    refine Tr.thenN ?_
    refine Tr.condF rfl ?_
    refine Tr.skip ?_
    refine Tr.thenN ?_
    refine Tr.seq ?_
    refine Tr.seq ?_
    refine Tr.region ?_
    refine Tr.val (V.move rfl) rfl ?_
    refine Tr.val (V.lss (b := true) rfl rfl (decide_eq_true (by omega))) rfl ?_
    refine Tr.lNil ?_
    refine Tr.thenN ?_
    refine Tr.condT rfl ?_
    refine Tr.region ?_
    refine Tr.val (V.assign rfl) rfl ?_
    refine Tr.lNil ?_
    refine Tr.thenN ?_
    refine Tr.seq ?_
    refine Tr.region ?_
    refine Tr.val (V.move rfl) rfl ?_
    refine Tr.lNil ?_
    refine Tr.thenN ?_
    refine Tr.condF rfl ?_
    refine Tr.region ?_
    refine Tr.val (V.move rfl) rfl ?_
    refine Tr.val (V.loadN (cs := [.slice p1 (dig st.1.x).length c1, .slice p2 (dig st.1.z).length c2]) Try.isAgg56 Try.sizeOf56 rfl (V.cellsB (by repeat (first | exact List.Mem.head _ | apply List.Mem.tail)))) rfl ?_
    refine Tr.val (V.loadN (cs := [.slice p3 (dig st.2.x).length c3, .slice p4 (dig st.2.z).length c4]) Try.isAgg56 Try.sizeOf56 rfl (V.cellsB (by repeat (first | exact List.Mem.head _ | apply List.Mem.tail)))) rfl ?_
    refine Tr.op (W.call (val := fun x : Rw × Rw × Rw × Rw => .tuple #[.agg #[x.1.v (dblN st.1).x, x.2.1.v (dblN st.1).z], .agg #[x.2.2.1.v (addN (uN ub) st.1 st.2).x, x.2.2.2.v (addN (uN ub) st.1 st.2).z]]) (N := fun x => [x.2.2.2.e 3 (addN (uN ub) st.1 st.2).z, x.2.2.1.e 3 (addN (uN ub) st.1 st.2).x, x.2.1.e 3 (dblN st.1).z, x.1.e 3 (dblN st.1).x]) (Px := fun x => x.1.ok (dblN st.1).x ∧ x.2.1.ok (dblN st.1).z ∧ x.2.2.1.ok (addN (uN ub) st.1 st.2).x ∧ x.2.2.2.ok (addN (uN ub) st.1 st.2).z)  (args3 rfl rfl rfl) Try.call26 rfl (fun w1 hw => rstep_any (some ⟨g11, 0, none⟩) p1 p2 p3 p4 c11 c1 c2 c3 c4 (uN ub) st.1.x st.1.z st.2.x st.2.z w1 (hsu _ w1 (fun y hy => .tail _ (.tail _ hy)) hw) (hs1 _ w1 (fun y hy => .tail _ (.tail _ hy)) hw) (hs2 _ w1 (fun y hy => .tail _ (.tail _ hy)) hw) (hs3 _ w1 (fun y hy => .tail _ (.tail _ hy)) hw) (hs4 _ w1 (fun y hy => .tail _ (.tail _ hy)) hw) (uN_below ub) hlt.1 hlt.2.1 hlt.2.2.1 hlt.2.2.2) fun y hy => ?_)
    refine Tr.val (V.move rfl) rfl ?_
    refine Tr.val (V.extract rfl rfl) rfl ?_
    refine Tr.val (V.extract rfl rfl) rfl ?_
    refine Tr.op (W.storeAll (vs := [y.1.v (dblN st.1).x, y.2.1.v (dblN st.1).z]) (cs := [.slice p1 (dig st.1.x).length c1, .slice p2 (dig st.1.z).length c2]) Try.sizeOf56 rfl rfl rfl rfl (by simp [Value.oneCell']) (by repeat (first | exact Upd.head | apply Upd.tail)) ?_)
    refine Tr.op (W.storeAll (vs := [y.2.2.1.v (addN (uN ub) st.1 st.2).x, y.2.2.2.v (addN (uN ub) st.1 st.2).z]) (cs := [.slice p3 (dig st.2.x).length c3, .slice p4 (dig st.2.z).length c4]) Try.sizeOf56 rfl rfl rfl rfl (by simp [Value.oneCell']) (by repeat (first | exact Upd.head | apply Upd.tail)) ?_)
    refine Tr.lNil ?_
    refine Tr.inN ?_
    refine Tr.thenN ?_
    refine Tr.region ?_
    refine Tr.val (V.move rfl) rfl ?_
    refine Tr.val (V.sub rfl rfl (by omega)) rfl ?_
    refine Tr.val (V.assign rfl) rfl ?_
    refine Tr.lNil ?_
    refine Tr.permL (perm42 _ _ _ _ _ _ _) ?_
    exact Tr.again (⟨k + 1, y.2.2.2.e 3 (addN (uN ub) st.1 st.2).z :: y.2.2.1.e 3 (addN (uN ub) st.1 st.2).x :: y.2.1.e 3 (dblN st.1).z :: y.1.e 3 (dblN st.1).x :: R, some ⟨y.1.g, 0, none⟩, y.1.c, some ⟨y.2.1.g, 0, none⟩, y.2.1.c, some ⟨y.2.2.1.g, 0, none⟩, y.2.2.1.c, some ⟨y.2.2.2.g, 0, none⟩, y.2.2.2.c⟩ : MS) ⟨by simp only; omega, hsu.mono (fun z hz => by simp [hz]), (by simp only [hnx]; exact RowIn.row (r := y.1) (ti := 3) (by simp) hy.1), (by simp only [hnx]; exact RowIn.row (r := y.2.1) (ti := 3) (by simp) hy.2.1), (by simp only [hnx]; exact RowIn.row (r := y.2.2.1) (ti := 3) (by simp) hy.2.2.1), (by simp only [hnx]; exact RowIn.row (r := y.2.2.2) (ti := 3) (by simp) hy.2.2.2)⟩ (by simp only; omega) (lk_cons rfl (lk_cons rfl (lk_cons rfl (lk_cons rfl (lk_cons (congrArg some (congrArg (Value.int .i64) (by simp only; omega))) (lk_nil _)))))) (by simp only [hnx]; exact List.Sublist.refl _)
  · refine Tr.seq ?_
    refine Tr.seq ?_
    refine Tr.region ?_
    refine Tr.val (V.move rfl) rfl ?_
    refine Tr.val (V.geq (b := false) rfl rfl (decide_eq_false (by omega))) rfl ?_
    refine Tr.lNil ?_
    refine Tr.thenN ?_
    refine Tr.condF rfl ?_
    refine Tr.exit ?_
    refine Tr.thenX ?_
    refine Tr.thenX ?_
    refine Tr.inHit ?_
    refine Tr.thenN ?_
    refine Tr.seq ?_
    refine Tr.regionD [0, 1, 0, 4, 12, 31, 63, 127] [] (.pure 0 (.soft 1 (.pure 2 (.soft 3 (.hard 4 (.hard 5 (.hard 6 (.pure 7 .done)))))))) mixed (by kernel_rfl) ?_
    refine TrP.pure rfl (fun _ => V.fieldS (o' := 0) Try.runUnderlying56 rfl rfl Try.sizeOf53 (by omega) rfl) rfl ?_
    refine TrP.soft rfl (V.load1 Try.isAgg53 rfl (V.cellB (by repeat (first | exact List.Mem.head _ | apply List.Mem.tail)) rfl)) rfl ?_
    refine TrP.pure rfl (fun _ => V.fieldS (o' := 1) Try.runUnderlying56 rfl rfl Try.sizeOf53 (by omega) rfl) rfl ?_
    refine TrP.soft rfl (V.load1 Try.isAgg53 rfl (V.cellB (by repeat (first | exact List.Mem.head _ | apply List.Mem.tail)) rfl)) rfl ?_
    refine TrP.hard rfl (W.callNum (N := invR st.1.z 255)  (args1 rfl) Try.call29 rfl (fun w1 hw => rinv_any p2 c2 st.1.z w1 (hs2 _ w1 (fun y hy => .tail _ (.tail _ hy)) hw) hlt.2.1) fun g56 c56 junk56 hc56 => ?_)
    refine Tr.pOn (by first | exact List.Sublist.refl _ | exact List.sublist_cons_self _ _ | exact List.sublist_append_right _ _ | simp) ?_
    refine TrP.hard rfl (W.callNum (N := fmul st.1.x (invR st.1.z 255))  (args2 rfl rfl) Try.call28 rfl (fun w1 hw => rmul_any p1 (some ⟨g56, 0, none⟩) c1 c56 st.1.x (invR st.1.z 255) w1 (hs1 _ w1 (fun y hy => .tail _ (.tail _ (.tail _ hy))) hw) (Nums.own hw (by repeat (first | exact List.Mem.head _ | apply List.Mem.tail)) rfl hc56) hlt.1 (invR_lt _ _)) fun g57 c57 junk57 hc57 => ?_)
    refine Tr.pOn (by first | exact List.Sublist.refl _ | exact List.sublist_cons_self _ _ | exact List.sublist_append_right _ _ | simp) ?_
    refine TrP.hard rfl (W.call (val := fun g : Nat => .slice (some ⟨g, 0, none⟩) 32 32) (N := fun g => [⟨g, 5, (multL kb ub).map U8⟩]) (Px := fun _ => True)  (args1 rfl) Try.call27 rfl (fun w1 hw => by have h := rbytes_any (some ⟨g57, 0, none⟩) c57 (fmul st.1.x (invR st.1.z 255)) w1 (Nums.own hw (by repeat (first | exact List.Mem.head _ | apply List.Mem.tail)) rfl hc57) (fmul_lt _ _); rw [hst, mult_ref kb ub hul] at h; rw [hst]; exact h) fun g58 _ => ?_)
    refine Tr.pOn (by first | exact List.Sublist.refl _ | exact List.sublist_cons_self _ _ | exact List.sublist_append_right _ _ | simp) ?_
    refine TrP.pure rfl (fun _ => V.assign rfl) rfl ?_
    refine TrP.done ?_
    refine Tr.thenN ?_
    refine Tr.ret ?_
    refine Tr.out1 rfl (Res.tmp rfl) fun w hw => ?_
    exact ⟨g58, rfl, hw.sub (.cons_cons _ (List.nil_sublist _)), trivial⟩

theorem rpublic_any (pk : Option Addr) (ck : Nat) (kb : List (BitVec 8)) (w : World) (hkb : Bytes w pk 32 ck kb) :
    Calls Try.prog 16 [.slice pk 32 ck].toArray w fun r w' => ∃ g : Nat, r = .returned (.slice (some ⟨g, 0, none⟩) 32 32) ∧ Hp w [] [⟨g, 5, (multL kb nineK).map U8⟩] w' ∧ True := by
  refine Tr.enter Try.func16 rfl Try.ntmps16 rfl (Hp.refl w) ?_
  refine Tr.seq ?_
  refine Tr.region ?_
  refine Tr.val (V.assign rfl) rfl ?_
  refine Tr.lNil ?_
  refine Tr.thenN ?_
  refine Tr.seq ?_
  refine Tr.region ?_
  refine Tr.op (W.makeSlice (l := 32) (c := 32) elem29 rfl rfl rfl rfl (by omega) (by omega) (by omega) rfl fun g4 => ?_)
  refine Tr.val (V.assign rfl) rfl ?_
  refine Tr.lNil ?_
  refine Tr.thenN ?_
  refine Tr.seq ?_
  refine Tr.region ?_
  refine Tr.val (V.move rfl) rfl ?_
  refine Tr.val (V.idxO (j := 0) (o' := 0) Try.runUnderlying29 Try.sizeOf5 rfl rfl (by omega) (by omega) (by omega)) rfl ?_
  refine Tr.op (W.store1E (cs := List.replicate 32 (.int .u8 0)) (v := U8 9#8) (cs' := nineK.map U8) Try.sizeOf5 rfl rfl rfl rfl rfl (by repeat (first | exact Upd.head | apply Upd.tail)) (by decide) ?_)
  refine Tr.lNil ?_
  refine Tr.thenN ?_
  refine Tr.seq ?_
  refine Tr.region ?_
  refine Tr.val (V.move rfl) rfl ?_
  refine Tr.val (V.move rfl) rfl ?_
  refine Tr.op (W.call (val := fun g : Nat => .slice (some ⟨g, 0, none⟩) 32 32) (N := fun g => [⟨g, 5, (multL kb nineK).map U8⟩]) (Px := fun _ => True)  (args2 rfl rfl) Try.call14 rfl (fun w1 hw => rmult_any pk (some ⟨g4, 0, none⟩) ck 32 kb nineK w1 (hkb.now hw) ⟨(RdP.all (by repeat (first | exact List.Mem.head _ | apply List.Mem.tail))).now hw, rfl, Nat.le_refl _, by omega, fun h => by cases h⟩) fun g9 _ => ?_)
  refine Tr.val (V.assign rfl) rfl ?_
  refine Tr.lNil ?_
  refine Tr.thenN ?_
  refine Tr.ret ?_
  refine Tr.out1 rfl (Res.tmp rfl) fun w hw => ?_
  exact ⟨g9, rfl, hw.sub (.cons_cons _ (List.nil_sublist _)), trivial⟩

end Go.Proofs.Ytgkndcincgpmdaa
