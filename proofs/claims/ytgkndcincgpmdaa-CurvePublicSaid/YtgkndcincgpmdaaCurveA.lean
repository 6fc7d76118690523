/-
  Contracts of package curve: swap, step, clamped. (Printed by a program of this session over its walk printer.)
-/
import Derived.Test.YtgkndcincgpmdaaFieldD
import Derived.Test.YtgkndcincgpmdaaPlainCurve
namespace Go.Proofs.Ytgkndcincgpmdaa
open Go.Sym Plain
set_option linter.unusedVariables false
set_option maxRecDepth 20000

theorem pswap_any (b : Bool) (p q : Pt) (w : World) (hp : p.ok) (hq : q.ok) : Calls Try.prog 21 [.bool b, .agg p.cs.toArray, .agg q.cs.toArray].toArray w fun r w' => r = .returned (.tuple #[.agg (swapP b p q).1.cs.toArray, .agg (swapP b p q).2.cs.toArray]) ∧ Hp w [] [] w' := by
  obtain ⟨x, z⟩ := p
  obtain ⟨u, v⟩ := q
  obtain ⟨hx, hz⟩ := hp
  obtain ⟨hu, hv⟩ := hq
  simp only at hx hz hu hv
  obtain ⟨r1, hr1⟩ : ∃ r, r = if b then u else x := ⟨_, rfl⟩
  obtain ⟨r2, hr2⟩ : ∃ r, r = if b then x else u := ⟨_, rfl⟩
  obtain ⟨s1, hs1⟩ : ∃ r, r = if b then v else z := ⟨_, rfl⟩
  obtain ⟨s2, hs2⟩ : ∃ r, r = if b then z else v := ⟨_, rfl⟩
  have hr1l : r1.length = 5 := by rw [hr1]; cases b <;> assumption
  have hr2l : r2.length = 5 := by rw [hr2]; cases b <;> assumption
  have hs1l : s1.length = 5 := by rw [hs1]; cases b <;> assumption
  have hs2l : s2.length = 5 := by rw [hs2]; cases b <;> assumption
  refine Tr.enter Try.func21 rfl Try.ntmps21 rfl (Hp.refl w) ?_
  refine Tr.seq ?_
  refine Tr.region ?_
  refine Tr.op (W.box (cs := (x.map U64 ++ z.map U64)) rfl rfl rfl fun g4 => ?_)
  refine Tr.op (W.box (cs := (u.map U64 ++ v.map U64)) rfl rfl rfl fun g5 => ?_)
  refine Tr.op (W.alloc (cs := (List.replicate 10 0#64).map U64) Try.zeroValue47 rfl rfl fun g6 => ?_)
  refine Tr.op (W.alloc (cs := (List.replicate 10 0#64).map U64) Try.zeroValue47 rfl rfl fun g7 => ?_)
  refine Tr.lNil ?_
  refine Tr.thenN ?_
  refine Tr.seq ?_
  refine Tr.region ?_
  refine Tr.val (V.move rfl) rfl ?_
  refine Tr.val (V.fieldS (o' := 0) Try.runUnderlying47 rfl rfl Try.sizeOf41 (by omega) rfl) rfl ?_
  refine Tr.val (V.loadN (cs := x.map U64) Try.isAgg41 (by rw [List.length_map, hx]; exact Try.sizeOf41) rfl (V.cellsO (pre := []) (post := z.map U64) (by repeat (first | exact List.Mem.head _ | apply List.Mem.tail)) rfl rfl)) rfl ?_
  refine Tr.val (V.fieldS (o' := 0) Try.runUnderlying47 rfl rfl Try.sizeOf41 (by omega) rfl) rfl ?_
  refine Tr.val (V.loadN (cs := u.map U64) Try.isAgg41 (by rw [List.length_map, hu]; exact Try.sizeOf41) rfl (V.cellsO (pre := []) (post := v.map U64) (by repeat (first | exact List.Mem.head _ | apply List.Mem.tail)) rfl rfl)) rfl ?_
  refine Tr.op (W.call1 (args3 rfl rfl rfl) Try.call33 rfl (fun w1 _ => by have h := eswap_any b x u w1 hx hu; rw [← hr1, ← hr2] at h; exact h) ?_)
  refine Tr.val (V.move rfl) rfl ?_
  refine Tr.val (V.extract rfl rfl) rfl ?_
  refine Tr.val (V.extract rfl rfl) rfl ?_
  refine Tr.val (V.fieldS (o' := 0) Try.runUnderlying47 rfl rfl Try.sizeOf41 (by omega) rfl) rfl ?_
  refine Tr.op (W.storeO (pre := []) (old := x.map U64) (vs := r1.map U64) (post := z.map U64) (cs := (x.map U64 ++ z.map U64)) (cs' := (r1.map U64 ++ z.map U64)) Try.sizeOf41 rfl rfl rfl rfl rfl (by rw [List.length_map, hx]) (by rw [List.length_map, hr1l]) (one64 _) (by repeat (first | exact Upd.head | apply Upd.tail)) ?_)
  refine Tr.val (V.fieldS (o' := 0) Try.runUnderlying47 rfl rfl Try.sizeOf41 (by omega) rfl) rfl ?_
  refine Tr.op (W.storeO (pre := []) (old := u.map U64) (vs := r2.map U64) (post := v.map U64) (cs := (u.map U64 ++ v.map U64)) (cs' := (r2.map U64 ++ v.map U64)) Try.sizeOf41 rfl rfl rfl rfl rfl (by rw [List.length_map, hu]) (by rw [List.length_map, hr2l]) (one64 _) (by repeat (first | exact Upd.head | apply Upd.tail)) ?_)
  refine Tr.lNil ?_
  refine Tr.thenN ?_
  refine Tr.seq ?_
  refine Tr.region ?_
  refine Tr.val (V.move rfl) rfl ?_
  refine Tr.val (V.fieldS (o' := 5) Try.runUnderlying47 rfl rfl Try.sizeOf41 (by omega) rfl) rfl ?_
  refine Tr.val (V.loadN (cs := z.map U64) Try.isAgg41 (by rw [List.length_map, hz]; exact Try.sizeOf41) rfl (V.cellsO (pre := r1.map U64) (post := []) (by repeat (first | exact List.Mem.head _ | apply List.Mem.tail)) (List.append_nil _).symm (by rw [List.length_map, hr1l]))) rfl ?_
  refine Tr.val (V.fieldS (o' := 5) Try.runUnderlying47 rfl rfl Try.sizeOf41 (by omega) rfl) rfl ?_
  refine Tr.val (V.loadN (cs := v.map U64) Try.isAgg41 (by rw [List.length_map, hv]; exact Try.sizeOf41) rfl (V.cellsO (pre := r2.map U64) (post := []) (by repeat (first | exact List.Mem.head _ | apply List.Mem.tail)) (List.append_nil _).symm (by rw [List.length_map, hr2l]))) rfl ?_
  refine Tr.op (W.call1 (args3 rfl rfl rfl) Try.call33 rfl (fun w1 _ => by have h := eswap_any b z v w1 hz hv; rw [← hs1, ← hs2] at h; exact h) ?_)
  refine Tr.val (V.move rfl) rfl ?_
  refine Tr.val (V.extract rfl rfl) rfl ?_
  refine Tr.val (V.extract rfl rfl) rfl ?_
  refine Tr.val (V.fieldS (o' := 5) Try.runUnderlying47 rfl rfl Try.sizeOf41 (by omega) rfl) rfl ?_
  refine Tr.op (W.storeO (pre := r1.map U64) (old := z.map U64) (vs := s1.map U64) (post := []) (cs := (r1.map U64 ++ z.map U64)) (cs' := (r1.map U64 ++ s1.map U64)) Try.sizeOf41 rfl rfl (List.append_nil _).symm (List.append_nil _).symm (by rw [List.length_map, hr1l]) (by rw [List.length_map, hz]) (by rw [List.length_map, hs1l]) (one64 _) (by repeat (first | exact Upd.head | apply Upd.tail)) ?_)
  refine Tr.val (V.fieldS (o' := 5) Try.runUnderlying47 rfl rfl Try.sizeOf41 (by omega) rfl) rfl ?_
  refine Tr.op (W.storeO (pre := r2.map U64) (old := v.map U64) (vs := s2.map U64) (post := []) (cs := (r2.map U64 ++ v.map U64)) (cs' := (r2.map U64 ++ s2.map U64)) Try.sizeOf41 rfl rfl (List.append_nil _).symm (List.append_nil _).symm (by rw [List.length_map, hr2l]) (by rw [List.length_map, hv]) (by rw [List.length_map, hs2l]) (one64 _) (by repeat (first | exact Upd.head | apply Upd.tail)) ?_)
  refine Tr.lNil ?_
  refine Tr.thenN ?_
  refine Tr.seq ?_
  refine Tr.regionD [0, 0, 1, 7] [2, 3] (.soft 0 (.two 1 (.hard 2 (.hard 3 .done)) 2 (.hard 1 (.hard 3 .done)))) mixed (by kernel_rfl) ?_
  refine TrP.soft rfl (V.loadN (cs := (r1.map U64 ++ s1.map U64)) Try.isAgg47 (by rw [List.length_append, List.length_map, List.length_map, hr1l, hs1l]; exact Try.sizeOf47) rfl (V.cellsB (by repeat (first | exact List.Mem.head _ | apply List.Mem.tail)))) rfl ?_
  refine TrP.two rfl rfl ?_ ?_
  · refine W.val (V.loadN (cs := (r2.map U64 ++ s2.map U64)) Try.isAgg47 (by rw [List.length_append, List.length_map, List.length_map, hr2l, hs2l]; exact Try.sizeOf47) rfl (V.cellsB (by repeat (first | exact List.Mem.head _ | apply List.Mem.tail)))) rfl ?_
    refine Tr.pOn (by first | exact List.Sublist.refl _ | exact List.sublist_cons_self _ _ | exact List.sublist_append_right _ _ | simp) ?_
    refine TrP.hard rfl (W.storeAll (vs := (r1.map U64 ++ s1.map U64)) (cs := (List.replicate 10 0#64).map U64) Try.sizeOf47 rfl rfl (by rw [List.length_append, List.length_map, List.length_map, hr1l, hs1l]) (by simp) (one2 _ _) (by repeat (first | exact Upd.head | apply Upd.tail)) ?_)
    refine Tr.pTail rfl ?_
    refine TrP.hard rfl (W.storeAll (vs := (r2.map U64 ++ s2.map U64)) (cs := (List.replicate 10 0#64).map U64) Try.sizeOf47 rfl rfl (by rw [List.length_append, List.length_map, List.length_map, hr2l, hs2l]) (by simp) (one2 _ _) (by repeat (first | exact Upd.head | apply Upd.tail)) ?_)
    refine Tr.pTail rfl ?_
    refine TrP.done ?_
    refine Tr.thenN ?_
    refine Tr.ret ?_
    refine Tr.out2 rfl (Res.cellN (cs := (r1.map U64 ++ s1.map U64)) rfl Try.isAgg47 (by rw [List.length_append, List.length_map, List.length_map, hr1l, hs1l]; exact Try.sizeOf47) (by repeat (first | exact List.Mem.head _ | apply List.Mem.tail))) (Res.cellN (cs := (r2.map U64 ++ s2.map U64)) rfl Try.isAgg47 (by rw [List.length_append, List.length_map, List.length_map, hr2l, hs2l]; exact Try.sizeOf47) (by repeat (first | exact List.Mem.head _ | apply List.Mem.tail))) fun w hw => ?_
    exact ⟨by subst hr1 hr2 hs1 hs2; rfl, hw.sub (List.nil_sublist _)⟩
  · refine W.storeAll (vs := (r1.map U64 ++ s1.map U64)) (cs := (List.replicate 10 0#64).map U64) Try.sizeOf47 rfl rfl (by rw [List.length_append, List.length_map, List.length_map, hr1l, hs1l]) (by simp) (one2 _ _) (by repeat (first | exact Upd.head | apply Upd.tail)) ?_
    refine Tr.pTail rfl ?_
    refine TrP.hard rfl (W.val (V.loadN (cs := (r2.map U64 ++ s2.map U64)) Try.isAgg47 (by rw [List.length_append, List.length_map, List.length_map, hr2l, hs2l]; exact Try.sizeOf47) rfl (V.cellsB (by repeat (first | exact List.Mem.head _ | apply List.Mem.tail)))) rfl ?_)
    refine Tr.pOn (by first | exact List.Sublist.refl _ | exact List.sublist_cons_self _ _ | exact List.sublist_append_right _ _ | simp) ?_
    refine TrP.hard rfl (W.storeAll (vs := (r2.map U64 ++ s2.map U64)) (cs := (List.replicate 10 0#64).map U64) Try.sizeOf47 rfl rfl (by rw [List.length_append, List.length_map, List.length_map, hr2l, hs2l]) (by simp) (one2 _ _) (by repeat (first | exact Upd.head | apply Upd.tail)) ?_)
    refine Tr.pTail rfl ?_
    refine TrP.done ?_
    refine Tr.thenN ?_
    refine Tr.ret ?_
    refine Tr.out2 rfl (Res.cellN (cs := (r1.map U64 ++ s1.map U64)) rfl Try.isAgg47 (by rw [List.length_append, List.length_map, List.length_map, hr1l, hs1l]; exact Try.sizeOf47) (by repeat (first | exact List.Mem.head _ | apply List.Mem.tail))) (Res.cellN (cs := (r2.map U64 ++ s2.map U64)) rfl Try.isAgg47 (by rw [List.length_append, List.length_map, List.length_map, hr2l, hs2l]; exact Try.sizeOf47) (by repeat (first | exact List.Mem.head _ | apply List.Mem.tail))) fun w hw => ?_
    exact ⟨by subst hr1 hr2 hs1 hs2; rfl, hw.sub (List.nil_sublist _)⟩

set_option maxHeartbeats 1000000 in
theorem pstep_any (u : L64) (p q : Pt) (w : World) (hul : u.length = 5) (hp : p.ok) (hq : q.ok) : Calls Try.prog 22 [.agg (u.map U64).toArray, .agg p.cs.toArray, .agg q.cs.toArray].toArray w fun r w' => r = .returned (.tuple #[.agg (dblP p).cs.toArray, .agg (addP u p q).cs.toArray]) ∧ Hp w [] [] w' := by
  obtain ⟨x, z⟩ := p
  obtain ⟨qx, qz⟩ := q
  obtain ⟨hx, hz⟩ := hp
  obtain ⟨hqx, hqz⟩ := hq
  simp only at hx hz hqx hqz
  have hsl : (smallL 121665#32).length = 5 := rfl
  obtain ⟨a, ha⟩ : ∃ r, r = addL x z := ⟨_, rfl⟩
  have hal : a.length = 5 := by rw [ha]; exact addL_len _ _ hx
  obtain ⟨b, hb⟩ : ∃ r, r = subL x z := ⟨_, rfl⟩
  have hbl : b.length = 5 := by rw [hb]; exact subL_len _ _ hx
  obtain ⟨aa, haa⟩ : ∃ r, r = mulL a a := ⟨_, rfl⟩
  have haal : aa.length = 5 := by rw [haa]; exact mulL_len _ _
  obtain ⟨bb, hbb⟩ : ∃ r, r = mulL b b := ⟨_, rfl⟩
  have hbbl : bb.length = 5 := by rw [hbb]; exact mulL_len _ _
  obtain ⟨e, he⟩ : ∃ r, r = subL aa bb := ⟨_, rfl⟩
  have hel : e.length = 5 := by rw [he]; exact subL_len _ _ haal
  obtain ⟨d1, hd1⟩ : ∃ r, r = subL qx qz := ⟨_, rfl⟩
  have hd1l : d1.length = 5 := by rw [hd1]; exact subL_len _ _ hqx
  obtain ⟨da, hda⟩ : ∃ r, r = mulL d1 a := ⟨_, rfl⟩
  have hdal : da.length = 5 := by rw [hda]; exact mulL_len _ _
  obtain ⟨s1, hs1⟩ : ∃ r, r = addL qx qz := ⟨_, rfl⟩
  have hs1l : s1.length = 5 := by rw [hs1]; exact addL_len _ _ hqx
  obtain ⟨cb, hcb⟩ : ∃ r, r = mulL s1 b := ⟨_, rfl⟩
  have hcbl : cb.length = 5 := by rw [hcb]; exact mulL_len _ _
  obtain ⟨sm, hsm⟩ : ∃ r, r = addL da cb := ⟨_, rfl⟩
  have hsml : sm.length = 5 := by rw [hsm]; exact addL_len _ _ hdal
  obtain ⟨ls, hls⟩ : ∃ r, r = subL da cb := ⟨_, rfl⟩
  have hlsl : ls.length = 5 := by rw [hls]; exact subL_len _ _ hdal
  obtain ⟨x2, hx2⟩ : ∃ r, r = mulL aa bb := ⟨_, rfl⟩
  have hx2l : x2.length = 5 := by rw [hx2]; exact mulL_len _ _
  obtain ⟨t1, ht1⟩ : ∃ r, r = mulL e (smallL 121665#32) := ⟨_, rfl⟩
  have ht1l : t1.length = 5 := by rw [ht1]; exact mulL_len _ _
  obtain ⟨t2, ht2⟩ : ∃ r, r = addL aa t1 := ⟨_, rfl⟩
  have ht2l : t2.length = 5 := by rw [ht2]; exact addL_len _ _ haal
  obtain ⟨z2, hz2⟩ : ∃ r, r = mulL e t2 := ⟨_, rfl⟩
  have hz2l : z2.length = 5 := by rw [hz2]; exact mulL_len _ _
  obtain ⟨x3, hx3⟩ : ∃ r, r = mulL sm sm := ⟨_, rfl⟩
  have hx3l : x3.length = 5 := by rw [hx3]; exact mulL_len _ _
  obtain ⟨t3, ht3⟩ : ∃ r, r = mulL ls ls := ⟨_, rfl⟩
  have ht3l : t3.length = 5 := by rw [ht3]; exact mulL_len _ _
  obtain ⟨z3, hz3⟩ : ∃ r, r = mulL t3 u := ⟨_, rfl⟩
  have hz3l : z3.length = 5 := by rw [hz3]; exact mulL_len _ _
  have hD : dblP ⟨x, z⟩ = ⟨x2, z2⟩ := by simp only [dblP]; rw [← ha, ← hb, ← haa, ← hbb, ← he, ← ht1, ← ht2, ← hz2, ← hx2]
  have hA : addP u ⟨x, z⟩ ⟨qx, qz⟩ = ⟨x3, z3⟩ := by simp only [addP, daL, cbL]; rw [← ha, ← hb, ← hd1, ← hs1, ← hda, ← hcb, ← hsm, ← hls, ← ht3, ← hx3, ← hz3]
  refine Tr.enter Try.func22 rfl Try.ntmps22 rfl (Hp.refl w) ?_
  refine Tr.seq ?_
  refine Tr.region ?_
  refine Tr.op (W.box (cs := u.map U64) rfl rfl rfl fun g3 => ?_)
  refine Tr.op (W.box (cs := (x.map U64 ++ z.map U64)) rfl rfl rfl fun g4 => ?_)
  refine Tr.op (W.box (cs := (qx.map U64 ++ qz.map U64)) rfl rfl rfl fun g5 => ?_)
  refine Tr.op (W.alloc (cs := (List.replicate 10 0#64).map U64) Try.zeroValue47 rfl rfl fun g6 => ?_)
  refine Tr.op (W.alloc (cs := (List.replicate 10 0#64).map U64) Try.zeroValue47 rfl rfl fun g7 => ?_)
  refine Tr.lNil ?_
  refine Tr.thenN ?_
  refine Tr.seq ?_
  refine Tr.regionD [0, 1, 0, 4, 15, 0, 32, 0, 128, 511, 0, 0, 4095, 8191] [12, 13] (.pure 0 (.soft 1 (.pure 2 (.soft 3 (.soft 4 (.pure 5 (.soft 6 (.pure 7 (.soft 8 (.soft 9 (.two 10 (.hard 11 (.hard 12 (.hard 13 .done))) 11 (.hard 10 (.hard 12 (.hard 13 .done)))))))))))))) mixed (by kernel_rfl) ?_
  refine TrP.pure rfl (fun _ => V.fieldS (o' := 0) Try.runUnderlying47 rfl rfl Try.sizeOf41 (by omega) rfl) rfl ?_
  refine TrP.soft rfl (V.loadN (cs := x.map U64) Try.isAgg41 (by rw [List.length_map, hx]; exact Try.sizeOf41) rfl (V.cellsO (pre := []) (post := z.map U64) (by repeat (first | exact List.Mem.head _ | apply List.Mem.tail)) rfl rfl)) rfl ?_
  refine TrP.pure rfl (fun _ => V.fieldS (o' := 5) Try.runUnderlying47 rfl rfl Try.sizeOf41 (by omega) rfl) rfl ?_
  refine TrP.soft rfl (V.loadN (cs := z.map U64) Try.isAgg41 (by rw [List.length_map, hz]; exact Try.sizeOf41) rfl (V.cellsO (pre := x.map U64) (post := []) (by repeat (first | exact List.Mem.head _ | apply List.Mem.tail)) (List.append_nil _).symm (by rw [List.length_map, hx]))) rfl ?_
  refine TrP.call rfl (args2 rfl rfl) Try.call34 rfl (fun w1 _ => by have h := eadd_any x z w1 hx hz; rw [← ha] at h; exact h) ?_
  refine TrP.pure rfl (fun _ => V.fieldS (o' := 0) Try.runUnderlying47 rfl rfl Try.sizeOf41 (by omega) rfl) rfl ?_
  refine TrP.soft rfl (V.loadN (cs := x.map U64) Try.isAgg41 (by rw [List.length_map, hx]; exact Try.sizeOf41) rfl (V.cellsO (pre := []) (post := z.map U64) (by repeat (first | exact List.Mem.head _ | apply List.Mem.tail)) rfl rfl)) rfl ?_
  refine TrP.pure rfl (fun _ => V.fieldS (o' := 5) Try.runUnderlying47 rfl rfl Try.sizeOf41 (by omega) rfl) rfl ?_
  refine TrP.soft rfl (V.loadN (cs := z.map U64) Try.isAgg41 (by rw [List.length_map, hz]; exact Try.sizeOf41) rfl (V.cellsO (pre := x.map U64) (post := []) (by repeat (first | exact List.Mem.head _ | apply List.Mem.tail)) (List.append_nil _).symm (by rw [List.length_map, hx]))) rfl ?_
  refine TrP.call rfl (args2 rfl rfl) Try.call35 rfl (fun w1 _ => by have h := esub_any x z w1 hx hz; rw [← hb] at h; exact h) ?_
  refine TrP.two rfl rfl ?_ ?_
  · refine W.alloc (cs := [0#64, 0#64, 0#64, 0#64, 0#64].map U64) Try.zeroValue41 rfl rfl fun g8 => ?_
    refine Tr.pOn (by first | exact List.Sublist.refl _ | exact List.sublist_cons_self _ _ | exact List.sublist_append_right _ _ | simp) ?_
    refine TrP.hard rfl (W.alloc (cs := [0#64, 0#64, 0#64, 0#64, 0#64].map U64) Try.zeroValue41 rfl rfl fun g9 => ?_)
    refine Tr.pOn (by first | exact List.Sublist.refl _ | exact List.sublist_cons_self _ _ | exact List.sublist_append_right _ _ | simp) ?_
    refine TrP.hard rfl (W.storeAll (vs := a.map U64) (cs := [0#64, 0#64, 0#64, 0#64, 0#64].map U64) Try.sizeOf41 rfl rfl (by rw [List.length_map, hal]) rfl (one64 _) (by repeat (first | exact Upd.head | apply Upd.tail)) ?_)
    refine Tr.pTail rfl ?_
    refine TrP.hard rfl (W.storeAll (vs := b.map U64) (cs := [0#64, 0#64, 0#64, 0#64, 0#64].map U64) Try.sizeOf41 rfl rfl (by rw [List.length_map, hbl]) rfl (one64 _) (by repeat (first | exact Upd.head | apply Upd.tail)) ?_)
    refine Tr.pTail rfl ?_
    refine TrP.done ?_
    refine Tr.thenN ?_
    refine Tr.seq ?_
    refine Tr.regionD [0, 0, 3, 0, 0, 31, 0, 0, 255, 511] [8, 9] (.soft 0 (.soft 1 (.soft 2 (.soft 3 (.soft 4 (.soft 5 (.two 6 (.hard 7 (.hard 8 (.hard 9 .done))) 7 (.hard 6 (.hard 8 (.hard 9 .done)))))))))) mixed (by kernel_rfl) ?_
    refine TrP.soft rfl (V.loadN (cs := a.map U64) Try.isAgg41 (by rw [List.length_map, hal]; exact Try.sizeOf41) rfl (V.cellsB (by repeat (first | exact List.Mem.head _ | apply List.Mem.tail)))) rfl ?_
    refine TrP.soft rfl (V.loadN (cs := a.map U64) Try.isAgg41 (by rw [List.length_map, hal]; exact Try.sizeOf41) rfl (V.cellsB (by repeat (first | exact List.Mem.head _ | apply List.Mem.tail)))) rfl ?_
    refine TrP.call rfl (args2 rfl rfl) Try.call23 rfl (fun w1 _ => by have h := emul_any a a w1 hal hal; rw [← haa] at h; exact h) ?_
    refine TrP.soft rfl (V.loadN (cs := b.map U64) Try.isAgg41 (by rw [List.length_map, hbl]; exact Try.sizeOf41) rfl (V.cellsB (by repeat (first | exact List.Mem.head _ | apply List.Mem.tail)))) rfl ?_
    refine TrP.soft rfl (V.loadN (cs := b.map U64) Try.isAgg41 (by rw [List.length_map, hbl]; exact Try.sizeOf41) rfl (V.cellsB (by repeat (first | exact List.Mem.head _ | apply List.Mem.tail)))) rfl ?_
    refine TrP.call rfl (args2 rfl rfl) Try.call23 rfl (fun w1 _ => by have h := emul_any b b w1 hbl hbl; rw [← hbb] at h; exact h) ?_
    refine TrP.two rfl rfl ?_ ?_
    · refine W.alloc (cs := [0#64, 0#64, 0#64, 0#64, 0#64].map U64) Try.zeroValue41 rfl rfl fun g10 => ?_
      refine Tr.pOn (by first | exact List.Sublist.refl _ | exact List.sublist_cons_self _ _ | exact List.sublist_append_right _ _ | simp) ?_
      refine TrP.hard rfl (W.alloc (cs := [0#64, 0#64, 0#64, 0#64, 0#64].map U64) Try.zeroValue41 rfl rfl fun g11 => ?_)
      refine Tr.pOn (by first | exact List.Sublist.refl _ | exact List.sublist_cons_self _ _ | exact List.sublist_append_right _ _ | simp) ?_
      refine TrP.hard rfl (W.storeAll (vs := aa.map U64) (cs := [0#64, 0#64, 0#64, 0#64, 0#64].map U64) Try.sizeOf41 rfl rfl (by rw [List.length_map, haal]) rfl (one64 _) (by repeat (first | exact Upd.head | apply Upd.tail)) ?_)
      refine Tr.pTail rfl ?_
      refine TrP.hard rfl (W.storeAll (vs := bb.map U64) (cs := [0#64, 0#64, 0#64, 0#64, 0#64].map U64) Try.sizeOf41 rfl rfl (by rw [List.length_map, hbbl]) rfl (one64 _) (by repeat (first | exact Upd.head | apply Upd.tail)) ?_)
      refine Tr.pTail rfl ?_
      refine TrP.done ?_
      refine Tr.thenN ?_
      refine Tr.seq ?_
      refine Tr.region ?_
      refine Tr.val (V.loadN (cs := aa.map U64) Try.isAgg41 (by rw [List.length_map, haal]; exact Try.sizeOf41) rfl (V.cellsB (by repeat (first | exact List.Mem.head _ | apply List.Mem.tail)))) rfl ?_
      refine Tr.val (V.loadN (cs := bb.map U64) Try.isAgg41 (by rw [List.length_map, hbbl]; exact Try.sizeOf41) rfl (V.cellsB (by repeat (first | exact List.Mem.head _ | apply List.Mem.tail)))) rfl ?_
      refine Tr.op (W.call1 (args2 rfl rfl) Try.call35 rfl (fun w1 _ => by have h := esub_any aa bb w1 haal hbbl; rw [← he] at h; exact h) ?_)
      refine Tr.op (W.alloc (cs := [0#64, 0#64, 0#64, 0#64, 0#64].map U64) Try.zeroValue41 rfl rfl fun g12 => ?_)
      refine Tr.op (W.storeAll (vs := e.map U64) (cs := [0#64, 0#64, 0#64, 0#64, 0#64].map U64) Try.sizeOf41 rfl rfl (by rw [List.length_map, hel]) rfl (one64 _) (by repeat (first | exact Upd.head | apply Upd.tail)) ?_)
      refine Tr.lNil ?_
      refine Tr.thenN ?_
      refine Tr.seq ?_
      refine Tr.regionD [0, 1, 0, 4, 15, 0, 63, 0, 128, 0, 512, 2047, 0, 8191, 0, 0, 65535, 131071] [16, 17] (.pure 0 (.soft 1 (.pure 2 (.soft 3 (.soft 4 (.soft 5 (.soft 6 (.pure 7 (.soft 8 (.pure 9 (.soft 10 (.soft 11 (.soft 12 (.soft 13 (.two 14 (.hard 15 (.hard 16 (.hard 17 .done))) 15 (.hard 14 (.hard 16 (.hard 17 .done)))))))))))))))))) mixed (by kernel_rfl) ?_
      refine TrP.pure rfl (fun _ => V.fieldS (o' := 0) Try.runUnderlying47 rfl rfl Try.sizeOf41 (by omega) rfl) rfl ?_
      refine TrP.soft rfl (V.loadN (cs := qx.map U64) Try.isAgg41 (by rw [List.length_map, hqx]; exact Try.sizeOf41) rfl (V.cellsO (pre := []) (post := qz.map U64) (by repeat (first | exact List.Mem.head _ | apply List.Mem.tail)) rfl rfl)) rfl ?_
      refine TrP.pure rfl (fun _ => V.fieldS (o' := 5) Try.runUnderlying47 rfl rfl Try.sizeOf41 (by omega) rfl) rfl ?_
      refine TrP.soft rfl (V.loadN (cs := qz.map U64) Try.isAgg41 (by rw [List.length_map, hqz]; exact Try.sizeOf41) rfl (V.cellsO (pre := qx.map U64) (post := []) (by repeat (first | exact List.Mem.head _ | apply List.Mem.tail)) (List.append_nil _).symm (by rw [List.length_map, hqx]))) rfl ?_
      refine TrP.call rfl (args2 rfl rfl) Try.call35 rfl (fun w1 _ => by have h := esub_any qx qz w1 hqx hqz; rw [← hd1] at h; exact h) ?_
      refine TrP.soft rfl (V.loadN (cs := a.map U64) Try.isAgg41 (by rw [List.length_map, hal]; exact Try.sizeOf41) rfl (V.cellsB (by repeat (first | exact List.Mem.head _ | apply List.Mem.tail)))) rfl ?_
      refine TrP.call rfl (args2 rfl rfl) Try.call23 rfl (fun w1 _ => by have h := emul_any d1 a w1 hd1l hal; rw [← hda] at h; exact h) ?_
      refine TrP.pure rfl (fun _ => V.fieldS (o' := 0) Try.runUnderlying47 rfl rfl Try.sizeOf41 (by omega) rfl) rfl ?_
      refine TrP.soft rfl (V.loadN (cs := qx.map U64) Try.isAgg41 (by rw [List.length_map, hqx]; exact Try.sizeOf41) rfl (V.cellsO (pre := []) (post := qz.map U64) (by repeat (first | exact List.Mem.head _ | apply List.Mem.tail)) rfl rfl)) rfl ?_
      refine TrP.pure rfl (fun _ => V.fieldS (o' := 5) Try.runUnderlying47 rfl rfl Try.sizeOf41 (by omega) rfl) rfl ?_
      refine TrP.soft rfl (V.loadN (cs := qz.map U64) Try.isAgg41 (by rw [List.length_map, hqz]; exact Try.sizeOf41) rfl (V.cellsO (pre := qx.map U64) (post := []) (by repeat (first | exact List.Mem.head _ | apply List.Mem.tail)) (List.append_nil _).symm (by rw [List.length_map, hqx]))) rfl ?_
      refine TrP.call rfl (args2 rfl rfl) Try.call34 rfl (fun w1 _ => by have h := eadd_any qx qz w1 hqx hqz; rw [← hs1] at h; exact h) ?_
      refine TrP.soft rfl (V.loadN (cs := b.map U64) Try.isAgg41 (by rw [List.length_map, hbl]; exact Try.sizeOf41) rfl (V.cellsB (by repeat (first | exact List.Mem.head _ | apply List.Mem.tail)))) rfl ?_
      refine TrP.call rfl (args2 rfl rfl) Try.call23 rfl (fun w1 _ => by have h := emul_any s1 b w1 hs1l hbl; rw [← hcb] at h; exact h) ?_
      refine TrP.two rfl rfl ?_ ?_
      · refine W.alloc (cs := [0#64, 0#64, 0#64, 0#64, 0#64].map U64) Try.zeroValue41 rfl rfl fun g13 => ?_
        refine Tr.pOn (by first | exact List.Sublist.refl _ | exact List.sublist_cons_self _ _ | exact List.sublist_append_right _ _ | simp) ?_
        refine TrP.hard rfl (W.alloc (cs := [0#64, 0#64, 0#64, 0#64, 0#64].map U64) Try.zeroValue41 rfl rfl fun g14 => ?_)
        refine Tr.pOn (by first | exact List.Sublist.refl _ | exact List.sublist_cons_self _ _ | exact List.sublist_append_right _ _ | simp) ?_
        refine TrP.hard rfl (W.storeAll (vs := da.map U64) (cs := [0#64, 0#64, 0#64, 0#64, 0#64].map U64) Try.sizeOf41 rfl rfl (by rw [List.length_map, hdal]) rfl (one64 _) (by repeat (first | exact Upd.head | apply Upd.tail)) ?_)
        refine Tr.pTail rfl ?_
        refine TrP.hard rfl (W.storeAll (vs := cb.map U64) (cs := [0#64, 0#64, 0#64, 0#64, 0#64].map U64) Try.sizeOf41 rfl rfl (by rw [List.length_map, hcbl]) rfl (one64 _) (by repeat (first | exact Upd.head | apply Upd.tail)) ?_)
        refine Tr.pTail rfl ?_
        refine TrP.done ?_
        refine Tr.thenN ?_
        refine Tr.seq ?_
        refine Tr.regionD [0, 0, 3, 0, 0, 31, 0, 0, 255, 511] [8, 9] (.soft 0 (.soft 1 (.soft 2 (.soft 3 (.soft 4 (.soft 5 (.two 6 (.hard 7 (.hard 8 (.hard 9 .done))) 7 (.hard 6 (.hard 8 (.hard 9 .done)))))))))) mixed (by kernel_rfl) ?_
        refine TrP.soft rfl (V.loadN (cs := da.map U64) Try.isAgg41 (by rw [List.length_map, hdal]; exact Try.sizeOf41) rfl (V.cellsB (by repeat (first | exact List.Mem.head _ | apply List.Mem.tail)))) rfl ?_
        refine TrP.soft rfl (V.loadN (cs := cb.map U64) Try.isAgg41 (by rw [List.length_map, hcbl]; exact Try.sizeOf41) rfl (V.cellsB (by repeat (first | exact List.Mem.head _ | apply List.Mem.tail)))) rfl ?_
        refine TrP.call rfl (args2 rfl rfl) Try.call34 rfl (fun w1 _ => by have h := eadd_any da cb w1 hdal hcbl; rw [← hsm] at h; exact h) ?_
        refine TrP.soft rfl (V.loadN (cs := da.map U64) Try.isAgg41 (by rw [List.length_map, hdal]; exact Try.sizeOf41) rfl (V.cellsB (by repeat (first | exact List.Mem.head _ | apply List.Mem.tail)))) rfl ?_
        refine TrP.soft rfl (V.loadN (cs := cb.map U64) Try.isAgg41 (by rw [List.length_map, hcbl]; exact Try.sizeOf41) rfl (V.cellsB (by repeat (first | exact List.Mem.head _ | apply List.Mem.tail)))) rfl ?_
        refine TrP.call rfl (args2 rfl rfl) Try.call35 rfl (fun w1 _ => by have h := esub_any da cb w1 hdal hcbl; rw [← hls] at h; exact h) ?_
        refine TrP.two rfl rfl ?_ ?_
        · refine W.alloc (cs := [0#64, 0#64, 0#64, 0#64, 0#64].map U64) Try.zeroValue41 rfl rfl fun g15 => ?_
          refine Tr.pOn (by first | exact List.Sublist.refl _ | exact List.sublist_cons_self _ _ | exact List.sublist_append_right _ _ | simp) ?_
          refine TrP.hard rfl (W.alloc (cs := [0#64, 0#64, 0#64, 0#64, 0#64].map U64) Try.zeroValue41 rfl rfl fun g16 => ?_)
          refine Tr.pOn (by first | exact List.Sublist.refl _ | exact List.sublist_cons_self _ _ | exact List.sublist_append_right _ _ | simp) ?_
          refine TrP.hard rfl (W.storeAll (vs := sm.map U64) (cs := [0#64, 0#64, 0#64, 0#64, 0#64].map U64) Try.sizeOf41 rfl rfl (by rw [List.length_map, hsml]) rfl (one64 _) (by repeat (first | exact Upd.head | apply Upd.tail)) ?_)
          refine Tr.pTail rfl ?_
          refine TrP.hard rfl (W.storeAll (vs := ls.map U64) (cs := [0#64, 0#64, 0#64, 0#64, 0#64].map U64) Try.sizeOf41 rfl rfl (by rw [List.length_map, hlsl]) rfl (one64 _) (by repeat (first | exact Upd.head | apply Upd.tail)) ?_)
          refine Tr.pTail rfl ?_
          refine TrP.done ?_
          refine Tr.thenN ?_
          refine Tr.seq ?_
          refine Tr.regionD [0, 0, 3, 0, 0, 0, 7, 103, 247, 511, 1023, 2047] [11] (.soft 0 (.soft 1 (.soft 2 (.soft 3 (.soft 4 (.soft 5 (.soft 6 (.soft 7 (.soft 8 (.soft 9 (.pure 10 (.hard 11 .done)))))))))))) mixed (by kernel_rfl) ?_
          refine TrP.soft rfl (V.loadN (cs := aa.map U64) Try.isAgg41 (by rw [List.length_map, haal]; exact Try.sizeOf41) rfl (V.cellsB (by repeat (first | exact List.Mem.head _ | apply List.Mem.tail)))) rfl ?_
          refine TrP.soft rfl (V.loadN (cs := bb.map U64) Try.isAgg41 (by rw [List.length_map, hbbl]; exact Try.sizeOf41) rfl (V.cellsB (by repeat (first | exact List.Mem.head _ | apply List.Mem.tail)))) rfl ?_
          refine TrP.call rfl (args2 rfl rfl) Try.call23 rfl (fun w1 _ => by have h := emul_any aa bb w1 haal hbbl; rw [← hx2] at h; exact h) ?_
          refine TrP.soft rfl (V.loadN (cs := e.map U64) Try.isAgg41 (by rw [List.length_map, hel]; exact Try.sizeOf41) rfl (V.cellsB (by repeat (first | exact List.Mem.head _ | apply List.Mem.tail)))) rfl ?_
          refine TrP.soft rfl (V.loadN (cs := aa.map U64) Try.isAgg41 (by rw [List.length_map, haal]; exact Try.sizeOf41) rfl (V.cellsB (by repeat (first | exact List.Mem.head _ | apply List.Mem.tail)))) rfl ?_
          refine TrP.soft rfl (V.loadN (cs := e.map U64) Try.isAgg41 (by rw [List.length_map, hel]; exact Try.sizeOf41) rfl (V.cellsB (by repeat (first | exact List.Mem.head _ | apply List.Mem.tail)))) rfl ?_
          refine TrP.call rfl (vs := [U32 121665#32]) (args1 rfl) Try.call20 rfl (fun w1 _ => small_any 121665#32 w1) ?_
          refine TrP.call rfl (args2 rfl rfl) Try.call23 rfl (fun w1 _ => by have h := emul_any e (smallL 121665#32) w1 hel hsl; rw [← ht1] at h; exact h) ?_
          refine TrP.call rfl (args2 rfl rfl) Try.call34 rfl (fun w1 _ => by have h := eadd_any aa t1 w1 haal ht1l; rw [← ht2] at h; exact h) ?_
          refine TrP.call rfl (args2 rfl rfl) Try.call23 rfl (fun w1 _ => by have h := emul_any e t2 w1 hel ht2l; rw [← hz2] at h; exact h) ?_
          refine TrP.pure rfl (fun _ => (V.buildS (vs := [(0, .agg (x2.map U64).toArray), (1, .agg (z2.map U64).toArray)]) (pl := #[(0, 5), (5, 5)]) (cs := (x2.map U64 ++ z2.map U64).toArray) Try.runUnderlying47 Try.zeroValue47 (fun w => by simp [Try.sizeOf41]) (fun a he => by simp [he.eval (x := .tmp 58) (v := .agg (x2.map U64).toArray) rfl, he.eval (x := .tmp 65) (v := .agg (z2.map U64).toArray) rfl]) (fill_two rfl rfl (by rw [List.length_map, hx2l]) (by rw [List.length_map, hz2l]) rfl))) rfl ?_
          refine TrP.hard rfl (W.storeAll (vs := (x2.map U64 ++ z2.map U64)) (cs := (x.map U64 ++ z.map U64)) Try.sizeOf47 rfl rfl (by rw [List.length_append, List.length_map, List.length_map, hx2l, hz2l]) (by rw [List.length_append, List.length_map, List.length_map, hx, hz]) (one2 _ _) (by repeat (first | exact Upd.head | apply Upd.tail)) ?_)
          refine Tr.pTail rfl ?_
          refine TrP.done ?_
          refine Tr.thenN ?_
          refine Tr.seq ?_
          refine Tr.regionD [0, 0, 0, 6, 0, 0, 62, 0, 254, 510, 511, 2047] [10, 11] (.soft 0 (.soft 1 (.soft 2 (.soft 3 (.soft 4 (.soft 5 (.soft 6 (.soft 7 (.soft 8 (.pure 9 (.hard 10 (.hard 11 .done)))))))))))) mixed (by kernel_rfl) ?_
          refine TrP.soft rfl (V.loadN (cs := (x2.map U64 ++ z2.map U64)) Try.isAgg47 (by rw [List.length_append, List.length_map, List.length_map, hx2l, hz2l]; exact Try.sizeOf47) rfl (V.cellsB (by repeat (first | exact List.Mem.head _ | apply List.Mem.tail)))) rfl ?_
          refine TrP.soft rfl (V.loadN (cs := sm.map U64) Try.isAgg41 (by rw [List.length_map, hsml]; exact Try.sizeOf41) rfl (V.cellsB (by repeat (first | exact List.Mem.head _ | apply List.Mem.tail)))) rfl ?_
          refine TrP.soft rfl (V.loadN (cs := sm.map U64) Try.isAgg41 (by rw [List.length_map, hsml]; exact Try.sizeOf41) rfl (V.cellsB (by repeat (first | exact List.Mem.head _ | apply List.Mem.tail)))) rfl ?_
          refine TrP.call rfl (args2 rfl rfl) Try.call23 rfl (fun w1 _ => by have h := emul_any sm sm w1 hsml hsml; rw [← hx3] at h; exact h) ?_
          refine TrP.soft rfl (V.loadN (cs := ls.map U64) Try.isAgg41 (by rw [List.length_map, hlsl]; exact Try.sizeOf41) rfl (V.cellsB (by repeat (first | exact List.Mem.head _ | apply List.Mem.tail)))) rfl ?_
          refine TrP.soft rfl (V.loadN (cs := ls.map U64) Try.isAgg41 (by rw [List.length_map, hlsl]; exact Try.sizeOf41) rfl (V.cellsB (by repeat (first | exact List.Mem.head _ | apply List.Mem.tail)))) rfl ?_
          refine TrP.call rfl (args2 rfl rfl) Try.call23 rfl (fun w1 _ => by have h := emul_any ls ls w1 hlsl hlsl; rw [← ht3] at h; exact h) ?_
          refine TrP.soft rfl (V.loadN (cs := u.map U64) Try.isAgg41 (by rw [List.length_map, hul]; exact Try.sizeOf41) rfl (V.cellsB (by repeat (first | exact List.Mem.head _ | apply List.Mem.tail)))) rfl ?_
          refine TrP.call rfl (args2 rfl rfl) Try.call23 rfl (fun w1 _ => by have h := emul_any t3 u w1 ht3l hul; rw [← hz3] at h; exact h) ?_
          refine TrP.pure rfl (fun _ => (V.buildS (vs := [(0, .agg (x3.map U64).toArray), (1, .agg (z3.map U64).toArray)]) (pl := #[(0, 5), (5, 5)]) (cs := (x3.map U64 ++ z3.map U64).toArray) Try.runUnderlying47 Try.zeroValue47 (fun w => by simp [Try.sizeOf41]) (fun a he => by simp [he.eval (x := .tmp 70) (v := .agg (x3.map U64).toArray) rfl, he.eval (x := .tmp 75) (v := .agg (z3.map U64).toArray) rfl]) (fill_two rfl rfl (by rw [List.length_map, hx3l]) (by rw [List.length_map, hz3l]) rfl))) rfl ?_
          refine TrP.hard rfl (W.storeAll (vs := (x2.map U64 ++ z2.map U64)) (cs := (List.replicate 10 0#64).map U64) Try.sizeOf47 rfl rfl (by rw [List.length_append, List.length_map, List.length_map, hx2l, hz2l]) (by simp) (one2 _ _) (by repeat (first | exact Upd.head | apply Upd.tail)) ?_)
          refine Tr.pTail rfl ?_
          refine TrP.hard rfl (W.storeAll (vs := (x3.map U64 ++ z3.map U64)) (cs := (List.replicate 10 0#64).map U64) Try.sizeOf47 rfl rfl (by rw [List.length_append, List.length_map, List.length_map, hx3l, hz3l]) (by simp) (one2 _ _) (by repeat (first | exact Upd.head | apply Upd.tail)) ?_)
          refine Tr.pTail rfl ?_
          refine TrP.done ?_
          refine Tr.thenN ?_
          refine Tr.ret ?_
          refine Tr.out2 rfl (Res.cellN (cs := (x2.map U64 ++ z2.map U64)) rfl Try.isAgg47 (by rw [List.length_append, List.length_map, List.length_map, hx2l, hz2l]; exact Try.sizeOf47) (by repeat (first | exact List.Mem.head _ | apply List.Mem.tail))) (Res.cellN (cs := (x3.map U64 ++ z3.map U64)) rfl Try.isAgg47 (by rw [List.length_append, List.length_map, List.length_map, hx3l, hz3l]; exact Try.sizeOf47) (by repeat (first | exact List.Mem.head _ | apply List.Mem.tail))) fun w hw => ?_
          exact ⟨by rw [hD, hA]; rfl, hw.sub (List.nil_sublist _)⟩
        · refine W.alloc (cs := [0#64, 0#64, 0#64, 0#64, 0#64].map U64) Try.zeroValue41 rfl rfl fun g16 => ?_
          refine Tr.pOn (by first | exact List.Sublist.refl _ | exact List.sublist_cons_self _ _ | exact List.sublist_append_right _ _ | simp) ?_
          refine TrP.hard rfl (W.alloc (cs := [0#64, 0#64, 0#64, 0#64, 0#64].map U64) Try.zeroValue41 rfl rfl fun g15 => ?_)
          refine Tr.pOn (by first | exact List.Sublist.refl _ | exact List.sublist_cons_self _ _ | exact List.sublist_append_right _ _ | simp) ?_
          refine TrP.hard rfl (W.storeAll (vs := sm.map U64) (cs := [0#64, 0#64, 0#64, 0#64, 0#64].map U64) Try.sizeOf41 rfl rfl (by rw [List.length_map, hsml]) rfl (one64 _) (by repeat (first | exact Upd.head | apply Upd.tail)) ?_)
          refine Tr.pTail rfl ?_
          refine TrP.hard rfl (W.storeAll (vs := ls.map U64) (cs := [0#64, 0#64, 0#64, 0#64, 0#64].map U64) Try.sizeOf41 rfl rfl (by rw [List.length_map, hlsl]) rfl (one64 _) (by repeat (first | exact Upd.head | apply Upd.tail)) ?_)
          refine Tr.pTail rfl ?_
          refine TrP.done ?_
          refine Tr.thenN ?_
          refine Tr.seq ?_
          refine Tr.regionD [0, 0, 3, 0, 0, 0, 7, 103, 247, 511, 1023, 2047] [11] (.soft 0 (.soft 1 (.soft 2 (.soft 3 (.soft 4 (.soft 5 (.soft 6 (.soft 7 (.soft 8 (.soft 9 (.pure 10 (.hard 11 .done)))))))))))) mixed (by kernel_rfl) ?_
          refine TrP.soft rfl (V.loadN (cs := aa.map U64) Try.isAgg41 (by rw [List.length_map, haal]; exact Try.sizeOf41) rfl (V.cellsB (by repeat (first | exact List.Mem.head _ | apply List.Mem.tail)))) rfl ?_
          refine TrP.soft rfl (V.loadN (cs := bb.map U64) Try.isAgg41 (by rw [List.length_map, hbbl]; exact Try.sizeOf41) rfl (V.cellsB (by repeat (first | exact List.Mem.head _ | apply List.Mem.tail)))) rfl ?_
          refine TrP.call rfl (args2 rfl rfl) Try.call23 rfl (fun w1 _ => by have h := emul_any aa bb w1 haal hbbl; rw [← hx2] at h; exact h) ?_
          refine TrP.soft rfl (V.loadN (cs := e.map U64) Try.isAgg41 (by rw [List.length_map, hel]; exact Try.sizeOf41) rfl (V.cellsB (by repeat (first | exact List.Mem.head _ | apply List.Mem.tail)))) rfl ?_
          refine TrP.soft rfl (V.loadN (cs := aa.map U64) Try.isAgg41 (by rw [List.length_map, haal]; exact Try.sizeOf41) rfl (V.cellsB (by repeat (first | exact List.Mem.head _ | apply List.Mem.tail)))) rfl ?_
          refine TrP.soft rfl (V.loadN (cs := e.map U64) Try.isAgg41 (by rw [List.length_map, hel]; exact Try.sizeOf41) rfl (V.cellsB (by repeat (first | exact List.Mem.head _ | apply List.Mem.tail)))) rfl ?_
          refine TrP.call rfl (vs := [U32 121665#32]) (args1 rfl) Try.call20 rfl (fun w1 _ => small_any 121665#32 w1) ?_
          refine TrP.call rfl (args2 rfl rfl) Try.call23 rfl (fun w1 _ => by have h := emul_any e (smallL 121665#32) w1 hel hsl; rw [← ht1] at h; exact h) ?_
          refine TrP.call rfl (args2 rfl rfl) Try.call34 rfl (fun w1 _ => by have h := eadd_any aa t1 w1 haal ht1l; rw [← ht2] at h; exact h) ?_
          refine TrP.call rfl (args2 rfl rfl) Try.call23 rfl (fun w1 _ => by have h := emul_any e t2 w1 hel ht2l; rw [← hz2] at h; exact h) ?_
          refine TrP.pure rfl (fun _ => (V.buildS (vs := [(0, .agg (x2.map U64).toArray), (1, .agg (z2.map U64).toArray)]) (pl := #[(0, 5), (5, 5)]) (cs := (x2.map U64 ++ z2.map U64).toArray) Try.runUnderlying47 Try.zeroValue47 (fun w => by simp [Try.sizeOf41]) (fun a he => by simp [he.eval (x := .tmp 58) (v := .agg (x2.map U64).toArray) rfl, he.eval (x := .tmp 65) (v := .agg (z2.map U64).toArray) rfl]) (fill_two rfl rfl (by rw [List.length_map, hx2l]) (by rw [List.length_map, hz2l]) rfl))) rfl ?_
          refine TrP.hard rfl (W.storeAll (vs := (x2.map U64 ++ z2.map U64)) (cs := (x.map U64 ++ z.map U64)) Try.sizeOf47 rfl rfl (by rw [List.length_append, List.length_map, List.length_map, hx2l, hz2l]) (by rw [List.length_append, List.length_map, List.length_map, hx, hz]) (one2 _ _) (by repeat (first | exact Upd.head | apply Upd.tail)) ?_)
          refine Tr.pTail rfl ?_
          refine TrP.done ?_
          refine Tr.thenN ?_
          refine Tr.seq ?_
          refine Tr.regionD [0, 0, 0, 6, 0, 0, 62, 0, 254, 510, 511, 2047] [10, 11] (.soft 0 (.soft 1 (.soft 2 (.soft 3 (.soft 4 (.soft 5 (.soft 6 (.soft 7 (.soft 8 (.pure 9 (.hard 10 (.hard 11 .done)))))))))))) mixed (by kernel_rfl) ?_
          refine TrP.soft rfl (V.loadN (cs := (x2.map U64 ++ z2.map U64)) Try.isAgg47 (by rw [List.length_append, List.length_map, List.length_map, hx2l, hz2l]; exact Try.sizeOf47) rfl (V.cellsB (by repeat (first | exact List.Mem.head _ | apply List.Mem.tail)))) rfl ?_
          refine TrP.soft rfl (V.loadN (cs := sm.map U64) Try.isAgg41 (by rw [List.length_map, hsml]; exact Try.sizeOf41) rfl (V.cellsB (by repeat (first | exact List.Mem.head _ | apply List.Mem.tail)))) rfl ?_
          refine TrP.soft rfl (V.loadN (cs := sm.map U64) Try.isAgg41 (by rw [List.length_map, hsml]; exact Try.sizeOf41) rfl (V.cellsB (by repeat (first | exact List.Mem.head _ | apply List.Mem.tail)))) rfl ?_
          refine TrP.call rfl (args2 rfl rfl) Try.call23 rfl (fun w1 _ => by have h := emul_any sm sm w1 hsml hsml; rw [← hx3] at h; exact h) ?_
          refine TrP.soft rfl (V.loadN (cs := ls.map U64) Try.isAgg41 (by rw [List.length_map, hlsl]; exact Try.sizeOf41) rfl (V.cellsB (by repeat (first | exact List.Mem.head _ | apply List.Mem.tail)))) rfl ?_
          refine TrP.soft rfl (V.loadN (cs := ls.map U64) Try.isAgg41 (by rw [List.length_map, hlsl]; exact Try.sizeOf41) rfl (V.cellsB (by repeat (first | exact List.Mem.head _ | apply List.Mem.tail)))) rfl ?_
          refine TrP.call rfl (args2 rfl rfl) Try.call23 rfl (fun w1 _ => by have h := emul_any ls ls w1 hlsl hlsl; rw [← ht3] at h; exact h) ?_
          refine TrP.soft rfl (V.loadN (cs := u.map U64) Try.isAgg41 (by rw [List.length_map, hul]; exact Try.sizeOf41) rfl (V.cellsB (by repeat (first | exact List.Mem.head _ | apply List.Mem.tail)))) rfl ?_
          refine TrP.call rfl (args2 rfl rfl) Try.call23 rfl (fun w1 _ => by have h := emul_any t3 u w1 ht3l hul; rw [← hz3] at h; exact h) ?_
          refine TrP.pure rfl (fun _ => (V.buildS (vs := [(0, .agg (x3.map U64).toArray), (1, .agg (z3.map U64).toArray)]) (pl := #[(0, 5), (5, 5)]) (cs := (x3.map U64 ++ z3.map U64).toArray) Try.runUnderlying47 Try.zeroValue47 (fun w => by simp [Try.sizeOf41]) (fun a he => by simp [he.eval (x := .tmp 70) (v := .agg (x3.map U64).toArray) rfl, he.eval (x := .tmp 75) (v := .agg (z3.map U64).toArray) rfl]) (fill_two rfl rfl (by rw [List.length_map, hx3l]) (by rw [List.length_map, hz3l]) rfl))) rfl ?_
          refine TrP.hard rfl (W.storeAll (vs := (x2.map U64 ++ z2.map U64)) (cs := (List.replicate 10 0#64).map U64) Try.sizeOf47 rfl rfl (by rw [List.length_append, List.length_map, List.length_map, hx2l, hz2l]) (by simp) (one2 _ _) (by repeat (first | exact Upd.head | apply Upd.tail)) ?_)
          refine Tr.pTail rfl ?_
          refine TrP.hard rfl (W.storeAll (vs := (x3.map U64 ++ z3.map U64)) (cs := (List.replicate 10 0#64).map U64) Try.sizeOf47 rfl rfl (by rw [List.length_append, List.length_map, List.length_map, hx3l, hz3l]) (by simp) (one2 _ _) (by repeat (first | exact Upd.head | apply Upd.tail)) ?_)
          refine Tr.pTail rfl ?_
          refine TrP.done ?_
          refine Tr.thenN ?_
          refine Tr.ret ?_
          refine Tr.out2 rfl (Res.cellN (cs := (x2.map U64 ++ z2.map U64)) rfl Try.isAgg47 (by rw [List.length_append, List.length_map, List.length_map, hx2l, hz2l]; exact Try.sizeOf47) (by repeat (first | exact List.Mem.head _ | apply List.Mem.tail))) (Res.cellN (cs := (x3.map U64 ++ z3.map U64)) rfl Try.isAgg47 (by rw [List.length_append, List.length_map, List.length_map, hx3l, hz3l]; exact Try.sizeOf47) (by repeat (first | exact List.Mem.head _ | apply List.Mem.tail))) fun w hw => ?_
          exact ⟨by rw [hD, hA]; rfl, hw.sub (List.nil_sublist _)⟩
      · refine W.alloc (cs := [0#64, 0#64, 0#64, 0#64, 0#64].map U64) Try.zeroValue41 rfl rfl fun g14 => ?_
        refine Tr.pOn (by first | exact List.Sublist.refl _ | exact List.sublist_cons_self _ _ | exact List.sublist_append_right _ _ | simp) ?_
        refine TrP.hard rfl (W.alloc (cs := [0#64, 0#64, 0#64, 0#64, 0#64].map U64) Try.zeroValue41 rfl rfl fun g13 => ?_)
        refine Tr.pOn (by first | exact List.Sublist.refl _ | exact List.sublist_cons_self _ _ | exact List.sublist_append_right _ _ | simp) ?_
        refine TrP.hard rfl (W.storeAll (vs := da.map U64) (cs := [0#64, 0#64, 0#64, 0#64, 0#64].map U64) Try.sizeOf41 rfl rfl (by rw [List.length_map, hdal]) rfl (one64 _) (by repeat (first | exact Upd.head | apply Upd.tail)) ?_)
        refine Tr.pTail rfl ?_
        refine TrP.hard rfl (W.storeAll (vs := cb.map U64) (cs := [0#64, 0#64, 0#64, 0#64, 0#64].map U64) Try.sizeOf41 rfl rfl (by rw [List.length_map, hcbl]) rfl (one64 _) (by repeat (first | exact Upd.head | apply Upd.tail)) ?_)
        refine Tr.pTail rfl ?_
        refine TrP.done ?_
        refine Tr.thenN ?_
        refine Tr.seq ?_
        refine Tr.regionD [0, 0, 3, 0, 0, 31, 0, 0, 255, 511] [8, 9] (.soft 0 (.soft 1 (.soft 2 (.soft 3 (.soft 4 (.soft 5 (.two 6 (.hard 7 (.hard 8 (.hard 9 .done))) 7 (.hard 6 (.hard 8 (.hard 9 .done)))))))))) mixed (by kernel_rfl) ?_
        refine TrP.soft rfl (V.loadN (cs := da.map U64) Try.isAgg41 (by rw [List.length_map, hdal]; exact Try.sizeOf41) rfl (V.cellsB (by repeat (first | exact List.Mem.head _ | apply List.Mem.tail)))) rfl ?_
        refine TrP.soft rfl (V.loadN (cs := cb.map U64) Try.isAgg41 (by rw [List.length_map, hcbl]; exact Try.sizeOf41) rfl (V.cellsB (by repeat (first | exact List.Mem.head _ | apply List.Mem.tail)))) rfl ?_
        refine TrP.call rfl (args2 rfl rfl) Try.call34 rfl (fun w1 _ => by have h := eadd_any da cb w1 hdal hcbl; rw [← hsm] at h; exact h) ?_
        refine TrP.soft rfl (V.loadN (cs := da.map U64) Try.isAgg41 (by rw [List.length_map, hdal]; exact Try.sizeOf41) rfl (V.cellsB (by repeat (first | exact List.Mem.head _ | apply List.Mem.tail)))) rfl ?_
        refine TrP.soft rfl (V.loadN (cs := cb.map U64) Try.isAgg41 (by rw [List.length_map, hcbl]; exact Try.sizeOf41) rfl (V.cellsB (by repeat (first | exact List.Mem.head _ | apply List.Mem.tail)))) rfl ?_
        refine TrP.call rfl (args2 rfl rfl) Try.call35 rfl (fun w1 _ => by have h := esub_any da cb w1 hdal hcbl; rw [← hls] at h; exact h) ?_
        refine TrP.two rfl rfl ?_ ?_
        · refine W.alloc (cs := [0#64, 0#64, 0#64, 0#64, 0#64].map U64) Try.zeroValue41 rfl rfl fun g15 => ?_
          refine Tr.pOn (by first | exact List.Sublist.refl _ | exact List.sublist_cons_self _ _ | exact List.sublist_append_right _ _ | simp) ?_
          refine TrP.hard rfl (W.alloc (cs := [0#64, 0#64, 0#64, 0#64, 0#64].map U64) Try.zeroValue41 rfl rfl fun g16 => ?_)
          refine Tr.pOn (by first | exact List.Sublist.refl _ | exact List.sublist_cons_self _ _ | exact List.sublist_append_right _ _ | simp) ?_
          refine TrP.hard rfl (W.storeAll (vs := sm.map U64) (cs := [0#64, 0#64, 0#64, 0#64, 0#64].map U64) Try.sizeOf41 rfl rfl (by rw [List.length_map, hsml]) rfl (one64 _) (by repeat (first | exact Upd.head | apply Upd.tail)) ?_)
          refine Tr.pTail rfl ?_
          refine TrP.hard rfl (W.storeAll (vs := ls.map U64) (cs := [0#64, 0#64, 0#64, 0#64, 0#64].map U64) Try.sizeOf41 rfl rfl (by rw [List.length_map, hlsl]) rfl (one64 _) (by repeat (first | exact Upd.head | apply Upd.tail)) ?_)
          refine Tr.pTail rfl ?_
          refine TrP.done ?_
          refine Tr.thenN ?_
          refine Tr.seq ?_
          refine Tr.regionD [0, 0, 3, 0, 0, 0, 7, 103, 247, 511, 1023, 2047] [11] (.soft 0 (.soft 1 (.soft 2 (.soft 3 (.soft 4 (.soft 5 (.soft 6 (.soft 7 (.soft 8 (.soft 9 (.pure 10 (.hard 11 .done)))))))))))) mixed (by kernel_rfl) ?_
          refine TrP.soft rfl (V.loadN (cs := aa.map U64) Try.isAgg41 (by rw [List.length_map, haal]; exact Try.sizeOf41) rfl (V.cellsB (by repeat (first | exact List.Mem.head _ | apply List.Mem.tail)))) rfl ?_
          refine TrP.soft rfl (V.loadN (cs := bb.map U64) Try.isAgg41 (by rw [List.length_map, hbbl]; exact Try.sizeOf41) rfl (V.cellsB (by repeat (first | exact List.Mem.head _ | apply List.Mem.tail)))) rfl ?_
          refine TrP.call rfl (args2 rfl rfl) Try.call23 rfl (fun w1 _ => by have h := emul_any aa bb w1 haal hbbl; rw [← hx2] at h; exact h) ?_
          refine TrP.soft rfl (V.loadN (cs := e.map U64) Try.isAgg41 (by rw [List.length_map, hel]; exact Try.sizeOf41) rfl (V.cellsB (by repeat (first | exact List.Mem.head _ | apply List.Mem.tail)))) rfl ?_
          refine TrP.soft rfl (V.loadN (cs := aa.map U64) Try.isAgg41 (by rw [List.length_map, haal]; exact Try.sizeOf41) rfl (V.cellsB (by repeat (first | exact List.Mem.head _ | apply List.Mem.tail)))) rfl ?_
          refine TrP.soft rfl (V.loadN (cs := e.map U64) Try.isAgg41 (by rw [List.length_map, hel]; exact Try.sizeOf41) rfl (V.cellsB (by repeat (first | exact List.Mem.head _ | apply List.Mem.tail)))) rfl ?_
          refine TrP.call rfl (vs := [U32 121665#32]) (args1 rfl) Try.call20 rfl (fun w1 _ => small_any 121665#32 w1) ?_
          refine TrP.call rfl (args2 rfl rfl) Try.call23 rfl (fun w1 _ => by have h := emul_any e (smallL 121665#32) w1 hel hsl; rw [← ht1] at h; exact h) ?_
          refine TrP.call rfl (args2 rfl rfl) Try.call34 rfl (fun w1 _ => by have h := eadd_any aa t1 w1 haal ht1l; rw [← ht2] at h; exact h) ?_
          refine TrP.call rfl (args2 rfl rfl) Try.call23 rfl (fun w1 _ => by have h := emul_any e t2 w1 hel ht2l; rw [← hz2] at h; exact h) ?_
          refine TrP.pure rfl (fun _ => (V.buildS (vs := [(0, .agg (x2.map U64).toArray), (1, .agg (z2.map U64).toArray)]) (pl := #[(0, 5), (5, 5)]) (cs := (x2.map U64 ++ z2.map U64).toArray) Try.runUnderlying47 Try.zeroValue47 (fun w => by simp [Try.sizeOf41]) (fun a he => by simp [he.eval (x := .tmp 58) (v := .agg (x2.map U64).toArray) rfl, he.eval (x := .tmp 65) (v := .agg (z2.map U64).toArray) rfl]) (fill_two rfl rfl (by rw [List.length_map, hx2l]) (by rw [List.length_map, hz2l]) rfl))) rfl ?_
          refine TrP.hard rfl (W.storeAll (vs := (x2.map U64 ++ z2.map U64)) (cs := (x.map U64 ++ z.map U64)) Try.sizeOf47 rfl rfl (by rw [List.length_append, List.length_map, List.length_map, hx2l, hz2l]) (by rw [List.length_append, List.length_map, List.length_map, hx, hz]) (one2 _ _) (by repeat (first | exact Upd.head | apply Upd.tail)) ?_)
          refine Tr.pTail rfl ?_
          refine TrP.done ?_
          refine Tr.thenN ?_
          refine Tr.seq ?_
          refine Tr.regionD [0, 0, 0, 6, 0, 0, 62, 0, 254, 510, 511, 2047] [10, 11] (.soft 0 (.soft 1 (.soft 2 (.soft 3 (.soft 4 (.soft 5 (.soft 6 (.soft 7 (.soft 8 (.pure 9 (.hard 10 (.hard 11 .done)))))))))))) mixed (by kernel_rfl) ?_
          refine TrP.soft rfl (V.loadN (cs := (x2.map U64 ++ z2.map U64)) Try.isAgg47 (by rw [List.length_append, List.length_map, List.length_map, hx2l, hz2l]; exact Try.sizeOf47) rfl (V.cellsB (by repeat (first | exact List.Mem.head _ | apply List.Mem.tail)))) rfl ?_
          refine TrP.soft rfl (V.loadN (cs := sm.map U64) Try.isAgg41 (by rw [List.length_map, hsml]; exact Try.sizeOf41) rfl (V.cellsB (by repeat (first | exact List.Mem.head _ | apply List.Mem.tail)))) rfl ?_
          refine TrP.soft rfl (V.loadN (cs := sm.map U64) Try.isAgg41 (by rw [List.length_map, hsml]; exact Try.sizeOf41) rfl (V.cellsB (by repeat (first | exact List.Mem.head _ | apply List.Mem.tail)))) rfl ?_
          refine TrP.call rfl (args2 rfl rfl) Try.call23 rfl (fun w1 _ => by have h := emul_any sm sm w1 hsml hsml; rw [← hx3] at h; exact h) ?_
          refine TrP.soft rfl (V.loadN (cs := ls.map U64) Try.isAgg41 (by rw [List.length_map, hlsl]; exact Try.sizeOf41) rfl (V.cellsB (by repeat (first | exact List.Mem.head _ | apply List.Mem.tail)))) rfl ?_
          refine TrP.soft rfl (V.loadN (cs := ls.map U64) Try.isAgg41 (by rw [List.length_map, hlsl]; exact Try.sizeOf41) rfl (V.cellsB (by repeat (first | exact List.Mem.head _ | apply List.Mem.tail)))) rfl ?_
          refine TrP.call rfl (args2 rfl rfl) Try.call23 rfl (fun w1 _ => by have h := emul_any ls ls w1 hlsl hlsl; rw [← ht3] at h; exact h) ?_
          refine TrP.soft rfl (V.loadN (cs := u.map U64) Try.isAgg41 (by rw [List.length_map, hul]; exact Try.sizeOf41) rfl (V.cellsB (by repeat (first | exact List.Mem.head _ | apply List.Mem.tail)))) rfl ?_
          refine TrP.call rfl (args2 rfl rfl) Try.call23 rfl (fun w1 _ => by have h := emul_any t3 u w1 ht3l hul; rw [← hz3] at h; exact h) ?_
          refine TrP.pure rfl (fun _ => (V.buildS (vs := [(0, .agg (x3.map U64).toArray), (1, .agg (z3.map U64).toArray)]) (pl := #[(0, 5), (5, 5)]) (cs := (x3.map U64 ++ z3.map U64).toArray) Try.runUnderlying47 Try.zeroValue47 (fun w => by simp [Try.sizeOf41]) (fun a he => by simp [he.eval (x := .tmp 70) (v := .agg (x3.map U64).toArray) rfl, he.eval (x := .tmp 75) (v := .agg (z3.map U64).toArray) rfl]) (fill_two rfl rfl (by rw [List.length_map, hx3l]) (by rw [List.length_map, hz3l]) rfl))) rfl ?_
          refine TrP.hard rfl (W.storeAll (vs := (x2.map U64 ++ z2.map U64)) (cs := (List.replicate 10 0#64).map U64) Try.sizeOf47 rfl rfl (by rw [List.length_append, List.length_map, List.length_map, hx2l, hz2l]) (by simp) (one2 _ _) (by repeat (first | exact Upd.head | apply Upd.tail)) ?_)
          refine Tr.pTail rfl ?_
          refine TrP.hard rfl (W.storeAll (vs := (x3.map U64 ++ z3.map U64)) (cs := (List.replicate 10 0#64).map U64) Try.sizeOf47 rfl rfl (by rw [List.length_append, List.length_map, List.length_map, hx3l, hz3l]) (by simp) (one2 _ _) (by repeat (first | exact Upd.head | apply Upd.tail)) ?_)
          refine Tr.pTail rfl ?_
          refine TrP.done ?_
          refine Tr.thenN ?_
          refine Tr.ret ?_
          refine Tr.out2 rfl (Res.cellN (cs := (x2.map U64 ++ z2.map U64)) rfl Try.isAgg47 (by rw [List.length_append, List.length_map, List.length_map, hx2l, hz2l]; exact Try.sizeOf47) (by repeat (first | exact List.Mem.head _ | apply List.Mem.tail))) (Res.cellN (cs := (x3.map U64 ++ z3.map U64)) rfl Try.isAgg47 (by rw [List.length_append, List.length_map, List.length_map, hx3l, hz3l]; exact Try.sizeOf47) (by repeat (first | exact List.Mem.head _ | apply List.Mem.tail))) fun w hw => ?_
          exact ⟨by rw [hD, hA]; rfl, hw.sub (List.nil_sublist _)⟩
        · refine W.alloc (cs := [0#64, 0#64, 0#64, 0#64, 0#64].map U64) Try.zeroValue41 rfl rfl fun g16 => ?_
          refine Tr.pOn (by first | exact List.Sublist.refl _ | exact List.sublist_cons_self _ _ | exact List.sublist_append_right _ _ | simp) ?_
          refine TrP.hard rfl (W.alloc (cs := [0#64, 0#64, 0#64, 0#64, 0#64].map U64) Try.zeroValue41 rfl rfl fun g15 => ?_)
          refine Tr.pOn (by first | exact List.Sublist.refl _ | exact List.sublist_cons_self _ _ | exact List.sublist_append_right _ _ | simp) ?_
          refine TrP.hard rfl (W.storeAll (vs := sm.map U64) (cs := [0#64, 0#64, 0#64, 0#64, 0#64].map U64) Try.sizeOf41 rfl rfl (by rw [List.length_map, hsml]) rfl (one64 _) (by repeat (first | exact Upd.head | apply Upd.tail)) ?_)
          refine Tr.pTail rfl ?_
          refine TrP.hard rfl (W.storeAll (vs := ls.map U64) (cs := [0#64, 0#64, 0#64, 0#64, 0#64].map U64) Try.sizeOf41 rfl rfl (by rw [List.length_map, hlsl]) rfl (one64 _) (by repeat (first | exact Upd.head | apply Upd.tail)) ?_)
          refine Tr.pTail rfl ?_
          refine TrP.done ?_
          refine Tr.thenN ?_
          refine Tr.seq ?_
          refine Tr.regionD [0, 0, 3, 0, 0, 0, 7, 103, 247, 511, 1023, 2047] [11] (.soft 0 (.soft 1 (.soft 2 (.soft 3 (.soft 4 (.soft 5 (.soft 6 (.soft 7 (.soft 8 (.soft 9 (.pure 10 (.hard 11 .done)))))))))))) mixed (by kernel_rfl) ?_
          refine TrP.soft rfl (V.loadN (cs := aa.map U64) Try.isAgg41 (by rw [List.length_map, haal]; exact Try.sizeOf41) rfl (V.cellsB (by repeat (first | exact List.Mem.head _ | apply List.Mem.tail)))) rfl ?_
          refine TrP.soft rfl (V.loadN (cs := bb.map U64) Try.isAgg41 (by rw [List.length_map, hbbl]; exact Try.sizeOf41) rfl (V.cellsB (by repeat (first | exact List.Mem.head _ | apply List.Mem.tail)))) rfl ?_
          refine TrP.call rfl (args2 rfl rfl) Try.call23 rfl (fun w1 _ => by have h := emul_any aa bb w1 haal hbbl; rw [← hx2] at h; exact h) ?_
          refine TrP.soft rfl (V.loadN (cs := e.map U64) Try.isAgg41 (by rw [List.length_map, hel]; exact Try.sizeOf41) rfl (V.cellsB (by repeat (first | exact List.Mem.head _ | apply List.Mem.tail)))) rfl ?_
          refine TrP.soft rfl (V.loadN (cs := aa.map U64) Try.isAgg41 (by rw [List.length_map, haal]; exact Try.sizeOf41) rfl (V.cellsB (by repeat (first | exact List.Mem.head _ | apply List.Mem.tail)))) rfl ?_
          refine TrP.soft rfl (V.loadN (cs := e.map U64) Try.isAgg41 (by rw [List.length_map, hel]; exact Try.sizeOf41) rfl (V.cellsB (by repeat (first | exact List.Mem.head _ | apply List.Mem.tail)))) rfl ?_
          refine TrP.call rfl (vs := [U32 121665#32]) (args1 rfl) Try.call20 rfl (fun w1 _ => small_any 121665#32 w1) ?_
          refine TrP.call rfl (args2 rfl rfl) Try.call23 rfl (fun w1 _ => by have h := emul_any e (smallL 121665#32) w1 hel hsl; rw [← ht1] at h; exact h) ?_
          refine TrP.call rfl (args2 rfl rfl) Try.call34 rfl (fun w1 _ => by have h := eadd_any aa t1 w1 haal ht1l; rw [← ht2] at h; exact h) ?_
          refine TrP.call rfl (args2 rfl rfl) Try.call23 rfl (fun w1 _ => by have h := emul_any e t2 w1 hel ht2l; rw [← hz2] at h; exact h) ?_
          refine TrP.pure rfl (fun _ => (V.buildS (vs := [(0, .agg (x2.map U64).toArray), (1, .agg (z2.map U64).toArray)]) (pl := #[(0, 5), (5, 5)]) (cs := (x2.map U64 ++ z2.map U64).toArray) Try.runUnderlying47 Try.zeroValue47 (fun w => by simp [Try.sizeOf41]) (fun a he => by simp [he.eval (x := .tmp 58) (v := .agg (x2.map U64).toArray) rfl, he.eval (x := .tmp 65) (v := .agg (z2.map U64).toArray) rfl]) (fill_two rfl rfl (by rw [List.length_map, hx2l]) (by rw [List.length_map, hz2l]) rfl))) rfl ?_
          refine TrP.hard rfl (W.storeAll (vs := (x2.map U64 ++ z2.map U64)) (cs := (x.map U64 ++ z.map U64)) Try.sizeOf47 rfl rfl (by rw [List.length_append, List.length_map, List.length_map, hx2l, hz2l]) (by rw [List.length_append, List.length_map, List.length_map, hx, hz]) (one2 _ _) (by repeat (first | exact Upd.head | apply Upd.tail)) ?_)
          refine Tr.pTail rfl ?_
          refine TrP.done ?_
          refine Tr.thenN ?_
          refine Tr.seq ?_
          refine Tr.regionD [0, 0, 0, 6, 0, 0, 62, 0, 254, 510, 511, 2047] [10, 11] (.soft 0 (.soft 1 (.soft 2 (.soft 3 (.soft 4 (.soft 5 (.soft 6 (.soft 7 (.soft 8 (.pure 9 (.hard 10 (.hard 11 .done)))))))))))) mixed (by kernel_rfl) ?_
          refine TrP.soft rfl (V.loadN (cs := (x2.map U64 ++ z2.map U64)) Try.isAgg47 (by rw [List.length_append, List.length_map, List.length_map, hx2l, hz2l]; exact Try.sizeOf47) rfl (V.cellsB (by repeat (first | exact List.Mem.head _ | apply List.Mem.tail)))) rfl ?_
          refine TrP.soft rfl (V.loadN (cs := sm.map U64) Try.isAgg41 (by rw [List.length_map, hsml]; exact Try.sizeOf41) rfl (V.cellsB (by repeat (first | exact List.Mem.head _ | apply List.Mem.tail)))) rfl ?_
          refine TrP.soft rfl (V.loadN (cs := sm.map U64) Try.isAgg41 (by rw [List.length_map, hsml]; exact Try.sizeOf41) rfl (V.cellsB (by repeat (first | exact List.Mem.head _ | apply List.Mem.tail)))) rfl ?_
          refine TrP.call rfl (args2 rfl rfl) Try.call23 rfl (fun w1 _ => by have h := emul_any sm sm w1 hsml hsml; rw [← hx3] at h; exact h) ?_
          refine TrP.soft rfl (V.loadN (cs := ls.map U64) Try.isAgg41 (by rw [List.length_map, hlsl]; exact Try.sizeOf41) rfl (V.cellsB (by repeat (first | exact List.Mem.head _ | apply List.Mem.tail)))) rfl ?_
          refine TrP.soft rfl (V.loadN (cs := ls.map U64) Try.isAgg41 (by rw [List.length_map, hlsl]; exact Try.sizeOf41) rfl (V.cellsB (by repeat (first | exact List.Mem.head _ | apply List.Mem.tail)))) rfl ?_
          refine TrP.call rfl (args2 rfl rfl) Try.call23 rfl (fun w1 _ => by have h := emul_any ls ls w1 hlsl hlsl; rw [← ht3] at h; exact h) ?_
          refine TrP.soft rfl (V.loadN (cs := u.map U64) Try.isAgg41 (by rw [List.length_map, hul]; exact Try.sizeOf41) rfl (V.cellsB (by repeat (first | exact List.Mem.head _ | apply List.Mem.tail)))) rfl ?_
          refine TrP.call rfl (args2 rfl rfl) Try.call23 rfl (fun w1 _ => by have h := emul_any t3 u w1 ht3l hul; rw [← hz3] at h; exact h) ?_
          refine TrP.pure rfl (fun _ => (V.buildS (vs := [(0, .agg (x3.map U64).toArray), (1, .agg (z3.map U64).toArray)]) (pl := #[(0, 5), (5, 5)]) (cs := (x3.map U64 ++ z3.map U64).toArray) Try.runUnderlying47 Try.zeroValue47 (fun w => by simp [Try.sizeOf41]) (fun a he => by simp [he.eval (x := .tmp 70) (v := .agg (x3.map U64).toArray) rfl, he.eval (x := .tmp 75) (v := .agg (z3.map U64).toArray) rfl]) (fill_two rfl rfl (by rw [List.length_map, hx3l]) (by rw [List.length_map, hz3l]) rfl))) rfl ?_
          refine TrP.hard rfl (W.storeAll (vs := (x2.map U64 ++ z2.map U64)) (cs := (List.replicate 10 0#64).map U64) Try.sizeOf47 rfl rfl (by rw [List.length_append, List.length_map, List.length_map, hx2l, hz2l]) (by simp) (one2 _ _) (by repeat (first | exact Upd.head | apply Upd.tail)) ?_)
          refine Tr.pTail rfl ?_
          refine TrP.hard rfl (W.storeAll (vs := (x3.map U64 ++ z3.map U64)) (cs := (List.replicate 10 0#64).map U64) Try.sizeOf47 rfl rfl (by rw [List.length_append, List.length_map, List.length_map, hx3l, hz3l]) (by simp) (one2 _ _) (by repeat (first | exact Upd.head | apply Upd.tail)) ?_)
          refine Tr.pTail rfl ?_
          refine TrP.done ?_
          refine Tr.thenN ?_
          refine Tr.ret ?_
          refine Tr.out2 rfl (Res.cellN (cs := (x2.map U64 ++ z2.map U64)) rfl Try.isAgg47 (by rw [List.length_append, List.length_map, List.length_map, hx2l, hz2l]; exact Try.sizeOf47) (by repeat (first | exact List.Mem.head _ | apply List.Mem.tail))) (Res.cellN (cs := (x3.map U64 ++ z3.map U64)) rfl Try.isAgg47 (by rw [List.length_append, List.length_map, List.length_map, hx3l, hz3l]; exact Try.sizeOf47) (by repeat (first | exact List.Mem.head _ | apply List.Mem.tail))) fun w hw => ?_
          exact ⟨by rw [hD, hA]; rfl, hw.sub (List.nil_sublist _)⟩
    · refine W.alloc (cs := [0#64, 0#64, 0#64, 0#64, 0#64].map U64) Try.zeroValue41 rfl rfl fun g11 => ?_
      refine Tr.pOn (by first | exact List.Sublist.refl _ | exact List.sublist_cons_self _ _ | exact List.sublist_append_right _ _ | simp) ?_
      refine TrP.hard rfl (W.alloc (cs := [0#64, 0#64, 0#64, 0#64, 0#64].map U64) Try.zeroValue41 rfl rfl fun g10 => ?_)
      refine Tr.pOn (by first | exact List.Sublist.refl _ | exact List.sublist_cons_self _ _ | exact List.sublist_append_right _ _ | simp) ?_
      refine TrP.hard rfl (W.storeAll (vs := aa.map U64) (cs := [0#64, 0#64, 0#64, 0#64, 0#64].map U64) Try.sizeOf41 rfl rfl (by rw [List.length_map, haal]) rfl (one64 _) (by repeat (first | exact Upd.head | apply Upd.tail)) ?_)
      refine Tr.pTail rfl ?_
      refine TrP.hard rfl (W.storeAll (vs := bb.map U64) (cs := [0#64, 0#64, 0#64, 0#64, 0#64].map U64) Try.sizeOf41 rfl rfl (by rw [List.length_map, hbbl]) rfl (one64 _) (by repeat (first | exact Upd.head | apply Upd.tail)) ?_)
      refine Tr.pTail rfl ?_
      refine TrP.done ?_
      refine Tr.thenN ?_
      refine Tr.seq ?_
      refine Tr.region ?_
      refine Tr.val (V.loadN (cs := aa.map U64) Try.isAgg41 (by rw [List.length_map, haal]; exact Try.sizeOf41) rfl (V.cellsB (by repeat (first | exact List.Mem.head _ | apply List.Mem.tail)))) rfl ?_
      refine Tr.val (V.loadN (cs := bb.map U64) Try.isAgg41 (by rw [List.length_map, hbbl]; exact Try.sizeOf41) rfl (V.cellsB (by repeat (first | exact List.Mem.head _ | apply List.Mem.tail)))) rfl ?_
      refine Tr.op (W.call1 (args2 rfl rfl) Try.call35 rfl (fun w1 _ => by have h := esub_any aa bb w1 haal hbbl; rw [← he] at h; exact h) ?_)
      refine Tr.op (W.alloc (cs := [0#64, 0#64, 0#64, 0#64, 0#64].map U64) Try.zeroValue41 rfl rfl fun g12 => ?_)
      refine Tr.op (W.storeAll (vs := e.map U64) (cs := [0#64, 0#64, 0#64, 0#64, 0#64].map U64) Try.sizeOf41 rfl rfl (by rw [List.length_map, hel]) rfl (one64 _) (by repeat (first | exact Upd.head | apply Upd.tail)) ?_)
      refine Tr.lNil ?_
      refine Tr.thenN ?_
      refine Tr.seq ?_
      refine Tr.regionD [0, 1, 0, 4, 15, 0, 63, 0, 128, 0, 512, 2047, 0, 8191, 0, 0, 65535, 131071] [16, 17] (.pure 0 (.soft 1 (.pure 2 (.soft 3 (.soft 4 (.soft 5 (.soft 6 (.pure 7 (.soft 8 (.pure 9 (.soft 10 (.soft 11 (.soft 12 (.soft 13 (.two 14 (.hard 15 (.hard 16 (.hard 17 .done))) 15 (.hard 14 (.hard 16 (.hard 17 .done)))))))))))))))))) mixed (by kernel_rfl) ?_
      refine TrP.pure rfl (fun _ => V.fieldS (o' := 0) Try.runUnderlying47 rfl rfl Try.sizeOf41 (by omega) rfl) rfl ?_
      refine TrP.soft rfl (V.loadN (cs := qx.map U64) Try.isAgg41 (by rw [List.length_map, hqx]; exact Try.sizeOf41) rfl (V.cellsO (pre := []) (post := qz.map U64) (by repeat (first | exact List.Mem.head _ | apply List.Mem.tail)) rfl rfl)) rfl ?_
      refine TrP.pure rfl (fun _ => V.fieldS (o' := 5) Try.runUnderlying47 rfl rfl Try.sizeOf41 (by omega) rfl) rfl ?_
      refine TrP.soft rfl (V.loadN (cs := qz.map U64) Try.isAgg41 (by rw [List.length_map, hqz]; exact Try.sizeOf41) rfl (V.cellsO (pre := qx.map U64) (post := []) (by repeat (first | exact List.Mem.head _ | apply List.Mem.tail)) (List.append_nil _).symm (by rw [List.length_map, hqx]))) rfl ?_
      refine TrP.call rfl (args2 rfl rfl) Try.call35 rfl (fun w1 _ => by have h := esub_any qx qz w1 hqx hqz; rw [← hd1] at h; exact h) ?_
      refine TrP.soft rfl (V.loadN (cs := a.map U64) Try.isAgg41 (by rw [List.length_map, hal]; exact Try.sizeOf41) rfl (V.cellsB (by repeat (first | exact List.Mem.head _ | apply List.Mem.tail)))) rfl ?_
      refine TrP.call rfl (args2 rfl rfl) Try.call23 rfl (fun w1 _ => by have h := emul_any d1 a w1 hd1l hal; rw [← hda] at h; exact h) ?_
      refine TrP.pure rfl (fun _ => V.fieldS (o' := 0) Try.runUnderlying47 rfl rfl Try.sizeOf41 (by omega) rfl) rfl ?_
      refine TrP.soft rfl (V.loadN (cs := qx.map U64) Try.isAgg41 (by rw [List.length_map, hqx]; exact Try.sizeOf41) rfl (V.cellsO (pre := []) (post := qz.map U64) (by repeat (first | exact List.Mem.head _ | apply List.Mem.tail)) rfl rfl)) rfl ?_
      refine TrP.pure rfl (fun _ => V.fieldS (o' := 5) Try.runUnderlying47 rfl rfl Try.sizeOf41 (by omega) rfl) rfl ?_
      refine TrP.soft rfl (V.loadN (cs := qz.map U64) Try.isAgg41 (by rw [List.length_map, hqz]; exact Try.sizeOf41) rfl (V.cellsO (pre := qx.map U64) (post := []) (by repeat (first | exact List.Mem.head _ | apply List.Mem.tail)) (List.append_nil _).symm (by rw [List.length_map, hqx]))) rfl ?_
      refine TrP.call rfl (args2 rfl rfl) Try.call34 rfl (fun w1 _ => by have h := eadd_any qx qz w1 hqx hqz; rw [← hs1] at h; exact h) ?_
      refine TrP.soft rfl (V.loadN (cs := b.map U64) Try.isAgg41 (by rw [List.length_map, hbl]; exact Try.sizeOf41) rfl (V.cellsB (by repeat (first | exact List.Mem.head _ | apply List.Mem.tail)))) rfl ?_
      refine TrP.call rfl (args2 rfl rfl) Try.call23 rfl (fun w1 _ => by have h := emul_any s1 b w1 hs1l hbl; rw [← hcb] at h; exact h) ?_
      refine TrP.two rfl rfl ?_ ?_
      · refine W.alloc (cs := [0#64, 0#64, 0#64, 0#64, 0#64].map U64) Try.zeroValue41 rfl rfl fun g13 => ?_
        refine Tr.pOn (by first | exact List.Sublist.refl _ | exact List.sublist_cons_self _ _ | exact List.sublist_append_right _ _ | simp) ?_
        refine TrP.hard rfl (W.alloc (cs := [0#64, 0#64, 0#64, 0#64, 0#64].map U64) Try.zeroValue41 rfl rfl fun g14 => ?_)
        refine Tr.pOn (by first | exact List.Sublist.refl _ | exact List.sublist_cons_self _ _ | exact List.sublist_append_right _ _ | simp) ?_
        refine TrP.hard rfl (W.storeAll (vs := da.map U64) (cs := [0#64, 0#64, 0#64, 0#64, 0#64].map U64) Try.sizeOf41 rfl rfl (by rw [List.length_map, hdal]) rfl (one64 _) (by repeat (first | exact Upd.head | apply Upd.tail)) ?_)
        refine Tr.pTail rfl ?_
        refine TrP.hard rfl (W.storeAll (vs := cb.map U64) (cs := [0#64, 0#64, 0#64, 0#64, 0#64].map U64) Try.sizeOf41 rfl rfl (by rw [List.length_map, hcbl]) rfl (one64 _) (by repeat (first | exact Upd.head | apply Upd.tail)) ?_)
        refine Tr.pTail rfl ?_
        refine TrP.done ?_
        refine Tr.thenN ?_
        refine Tr.seq ?_
        refine Tr.regionD [0, 0, 3, 0, 0, 31, 0, 0, 255, 511] [8, 9] (.soft 0 (.soft 1 (.soft 2 (.soft 3 (.soft 4 (.soft 5 (.two 6 (.hard 7 (.hard 8 (.hard 9 .done))) 7 (.hard 6 (.hard 8 (.hard 9 .done)))))))))) mixed (by kernel_rfl) ?_
        refine TrP.soft rfl (V.loadN (cs := da.map U64) Try.isAgg41 (by rw [List.length_map, hdal]; exact Try.sizeOf41) rfl (V.cellsB (by repeat (first | exact List.Mem.head _ | apply List.Mem.tail)))) rfl ?_
        refine TrP.soft rfl (V.loadN (cs := cb.map U64) Try.isAgg41 (by rw [List.length_map, hcbl]; exact Try.sizeOf41) rfl (V.cellsB (by repeat (first | exact List.Mem.head _ | apply List.Mem.tail)))) rfl ?_
        refine TrP.call rfl (args2 rfl rfl) Try.call34 rfl (fun w1 _ => by have h := eadd_any da cb w1 hdal hcbl; rw [← hsm] at h; exact h) ?_
        refine TrP.soft rfl (V.loadN (cs := da.map U64) Try.isAgg41 (by rw [List.length_map, hdal]; exact Try.sizeOf41) rfl (V.cellsB (by repeat (first | exact List.Mem.head _ | apply List.Mem.tail)))) rfl ?_
        refine TrP.soft rfl (V.loadN (cs := cb.map U64) Try.isAgg41 (by rw [List.length_map, hcbl]; exact Try.sizeOf41) rfl (V.cellsB (by repeat (first | exact List.Mem.head _ | apply List.Mem.tail)))) rfl ?_
        refine TrP.call rfl (args2 rfl rfl) Try.call35 rfl (fun w1 _ => by have h := esub_any da cb w1 hdal hcbl; rw [← hls] at h; exact h) ?_
        refine TrP.two rfl rfl ?_ ?_
        · refine W.alloc (cs := [0#64, 0#64, 0#64, 0#64, 0#64].map U64) Try.zeroValue41 rfl rfl fun g15 => ?_
          refine Tr.pOn (by first | exact List.Sublist.refl _ | exact List.sublist_cons_self _ _ | exact List.sublist_append_right _ _ | simp) ?_
          refine TrP.hard rfl (W.alloc (cs := [0#64, 0#64, 0#64, 0#64, 0#64].map U64) Try.zeroValue41 rfl rfl fun g16 => ?_)
          refine Tr.pOn (by first | exact List.Sublist.refl _ | exact List.sublist_cons_self _ _ | exact List.sublist_append_right _ _ | simp) ?_
          refine TrP.hard rfl (W.storeAll (vs := sm.map U64) (cs := [0#64, 0#64, 0#64, 0#64, 0#64].map U64) Try.sizeOf41 rfl rfl (by rw [List.length_map, hsml]) rfl (one64 _) (by repeat (first | exact Upd.head | apply Upd.tail)) ?_)
          refine Tr.pTail rfl ?_
          refine TrP.hard rfl (W.storeAll (vs := ls.map U64) (cs := [0#64, 0#64, 0#64, 0#64, 0#64].map U64) Try.sizeOf41 rfl rfl (by rw [List.length_map, hlsl]) rfl (one64 _) (by repeat (first | exact Upd.head | apply Upd.tail)) ?_)
          refine Tr.pTail rfl ?_
          refine TrP.done ?_
          refine Tr.thenN ?_
          refine Tr.seq ?_
          refine Tr.regionD [0, 0, 3, 0, 0, 0, 7, 103, 247, 511, 1023, 2047] [11] (.soft 0 (.soft 1 (.soft 2 (.soft 3 (.soft 4 (.soft 5 (.soft 6 (.soft 7 (.soft 8 (.soft 9 (.pure 10 (.hard 11 .done)))))))))))) mixed (by kernel_rfl) ?_
          refine TrP.soft rfl (V.loadN (cs := aa.map U64) Try.isAgg41 (by rw [List.length_map, haal]; exact Try.sizeOf41) rfl (V.cellsB (by repeat (first | exact List.Mem.head _ | apply List.Mem.tail)))) rfl ?_
          refine TrP.soft rfl (V.loadN (cs := bb.map U64) Try.isAgg41 (by rw [List.length_map, hbbl]; exact Try.sizeOf41) rfl (V.cellsB (by repeat (first | exact List.Mem.head _ | apply List.Mem.tail)))) rfl ?_
          refine TrP.call rfl (args2 rfl rfl) Try.call23 rfl (fun w1 _ => by have h := emul_any aa bb w1 haal hbbl; rw [← hx2] at h; exact h) ?_
          refine TrP.soft rfl (V.loadN (cs := e.map U64) Try.isAgg41 (by rw [List.length_map, hel]; exact Try.sizeOf41) rfl (V.cellsB (by repeat (first | exact List.Mem.head _ | apply List.Mem.tail)))) rfl ?_
          refine TrP.soft rfl (V.loadN (cs := aa.map U64) Try.isAgg41 (by rw [List.length_map, haal]; exact Try.sizeOf41) rfl (V.cellsB (by repeat (first | exact List.Mem.head _ | apply List.Mem.tail)))) rfl ?_
          refine TrP.soft rfl (V.loadN (cs := e.map U64) Try.isAgg41 (by rw [List.length_map, hel]; exact Try.sizeOf41) rfl (V.cellsB (by repeat (first | exact List.Mem.head _ | apply List.Mem.tail)))) rfl ?_
          refine TrP.call rfl (vs := [U32 121665#32]) (args1 rfl) Try.call20 rfl (fun w1 _ => small_any 121665#32 w1) ?_
          refine TrP.call rfl (args2 rfl rfl) Try.call23 rfl (fun w1 _ => by have h := emul_any e (smallL 121665#32) w1 hel hsl; rw [← ht1] at h; exact h) ?_
          refine TrP.call rfl (args2 rfl rfl) Try.call34 rfl (fun w1 _ => by have h := eadd_any aa t1 w1 haal ht1l; rw [← ht2] at h; exact h) ?_
          refine TrP.call rfl (args2 rfl rfl) Try.call23 rfl (fun w1 _ => by have h := emul_any e t2 w1 hel ht2l; rw [← hz2] at h; exact h) ?_
          refine TrP.pure rfl (fun _ => (V.buildS (vs := [(0, .agg (x2.map U64).toArray), (1, .agg (z2.map U64).toArray)]) (pl := #[(0, 5), (5, 5)]) (cs := (x2.map U64 ++ z2.map U64).toArray) Try.runUnderlying47 Try.zeroValue47 (fun w => by simp [Try.sizeOf41]) (fun a he => by simp [he.eval (x := .tmp 58) (v := .agg (x2.map U64).toArray) rfl, he.eval (x := .tmp 65) (v := .agg (z2.map U64).toArray) rfl]) (fill_two rfl rfl (by rw [List.length_map, hx2l]) (by rw [List.length_map, hz2l]) rfl))) rfl ?_
          refine TrP.hard rfl (W.storeAll (vs := (x2.map U64 ++ z2.map U64)) (cs := (x.map U64 ++ z.map U64)) Try.sizeOf47 rfl rfl (by rw [List.length_append, List.length_map, List.length_map, hx2l, hz2l]) (by rw [List.length_append, List.length_map, List.length_map, hx, hz]) (one2 _ _) (by repeat (first | exact Upd.head | apply Upd.tail)) ?_)
          refine Tr.pTail rfl ?_
          refine TrP.done ?_
          refine Tr.thenN ?_
          refine Tr.seq ?_
          refine Tr.regionD [0, 0, 0, 6, 0, 0, 62, 0, 254, 510, 511, 2047] [10, 11] (.soft 0 (.soft 1 (.soft 2 (.soft 3 (.soft 4 (.soft 5 (.soft 6 (.soft 7 (.soft 8 (.pure 9 (.hard 10 (.hard 11 .done)))))))))))) mixed (by kernel_rfl) ?_
          refine TrP.soft rfl (V.loadN (cs := (x2.map U64 ++ z2.map U64)) Try.isAgg47 (by rw [List.length_append, List.length_map, List.length_map, hx2l, hz2l]; exact Try.sizeOf47) rfl (V.cellsB (by repeat (first | exact List.Mem.head _ | apply List.Mem.tail)))) rfl ?_
          refine TrP.soft rfl (V.loadN (cs := sm.map U64) Try.isAgg41 (by rw [List.length_map, hsml]; exact Try.sizeOf41) rfl (V.cellsB (by repeat (first | exact List.Mem.head _ | apply List.Mem.tail)))) rfl ?_
          refine TrP.soft rfl (V.loadN (cs := sm.map U64) Try.isAgg41 (by rw [List.length_map, hsml]; exact Try.sizeOf41) rfl (V.cellsB (by repeat (first | exact List.Mem.head _ | apply List.Mem.tail)))) rfl ?_
          refine TrP.call rfl (args2 rfl rfl) Try.call23 rfl (fun w1 _ => by have h := emul_any sm sm w1 hsml hsml; rw [← hx3] at h; exact h) ?_
          refine TrP.soft rfl (V.loadN (cs := ls.map U64) Try.isAgg41 (by rw [List.length_map, hlsl]; exact Try.sizeOf41) rfl (V.cellsB (by repeat (first | exact List.Mem.head _ | apply List.Mem.tail)))) rfl ?_
          refine TrP.soft rfl (V.loadN (cs := ls.map U64) Try.isAgg41 (by rw [List.length_map, hlsl]; exact Try.sizeOf41) rfl (V.cellsB (by repeat (first | exact List.Mem.head _ | apply List.Mem.tail)))) rfl ?_
          refine TrP.call rfl (args2 rfl rfl) Try.call23 rfl (fun w1 _ => by have h := emul_any ls ls w1 hlsl hlsl; rw [← ht3] at h; exact h) ?_
          refine TrP.soft rfl (V.loadN (cs := u.map U64) Try.isAgg41 (by rw [List.length_map, hul]; exact Try.sizeOf41) rfl (V.cellsB (by repeat (first | exact List.Mem.head _ | apply List.Mem.tail)))) rfl ?_
          refine TrP.call rfl (args2 rfl rfl) Try.call23 rfl (fun w1 _ => by have h := emul_any t3 u w1 ht3l hul; rw [← hz3] at h; exact h) ?_
          refine TrP.pure rfl (fun _ => (V.buildS (vs := [(0, .agg (x3.map U64).toArray), (1, .agg (z3.map U64).toArray)]) (pl := #[(0, 5), (5, 5)]) (cs := (x3.map U64 ++ z3.map U64).toArray) Try.runUnderlying47 Try.zeroValue47 (fun w => by simp [Try.sizeOf41]) (fun a he => by simp [he.eval (x := .tmp 70) (v := .agg (x3.map U64).toArray) rfl, he.eval (x := .tmp 75) (v := .agg (z3.map U64).toArray) rfl]) (fill_two rfl rfl (by rw [List.length_map, hx3l]) (by rw [List.length_map, hz3l]) rfl))) rfl ?_
          refine TrP.hard rfl (W.storeAll (vs := (x2.map U64 ++ z2.map U64)) (cs := (List.replicate 10 0#64).map U64) Try.sizeOf47 rfl rfl (by rw [List.length_append, List.length_map, List.length_map, hx2l, hz2l]) (by simp) (one2 _ _) (by repeat (first | exact Upd.head | apply Upd.tail)) ?_)
          refine Tr.pTail rfl ?_
          refine TrP.hard rfl (W.storeAll (vs := (x3.map U64 ++ z3.map U64)) (cs := (List.replicate 10 0#64).map U64) Try.sizeOf47 rfl rfl (by rw [List.length_append, List.length_map, List.length_map, hx3l, hz3l]) (by simp) (one2 _ _) (by repeat (first | exact Upd.head | apply Upd.tail)) ?_)
          refine Tr.pTail rfl ?_
          refine TrP.done ?_
          refine Tr.thenN ?_
          refine Tr.ret ?_
          refine Tr.out2 rfl (Res.cellN (cs := (x2.map U64 ++ z2.map U64)) rfl Try.isAgg47 (by rw [List.length_append, List.length_map, List.length_map, hx2l, hz2l]; exact Try.sizeOf47) (by repeat (first | exact List.Mem.head _ | apply List.Mem.tail))) (Res.cellN (cs := (x3.map U64 ++ z3.map U64)) rfl Try.isAgg47 (by rw [List.length_append, List.length_map, List.length_map, hx3l, hz3l]; exact Try.sizeOf47) (by repeat (first | exact List.Mem.head _ | apply List.Mem.tail))) fun w hw => ?_
          exact ⟨by rw [hD, hA]; rfl, hw.sub (List.nil_sublist _)⟩
        · refine W.alloc (cs := [0#64, 0#64, 0#64, 0#64, 0#64].map U64) Try.zeroValue41 rfl rfl fun g16 => ?_
          refine Tr.pOn (by first | exact List.Sublist.refl _ | exact List.sublist_cons_self _ _ | exact List.sublist_append_right _ _ | simp) ?_
          refine TrP.hard rfl (W.alloc (cs := [0#64, 0#64, 0#64, 0#64, 0#64].map U64) Try.zeroValue41 rfl rfl fun g15 => ?_)
          refine Tr.pOn (by first | exact List.Sublist.refl _ | exact List.sublist_cons_self _ _ | exact List.sublist_append_right _ _ | simp) ?_
          refine TrP.hard rfl (W.storeAll (vs := sm.map U64) (cs := [0#64, 0#64, 0#64, 0#64, 0#64].map U64) Try.sizeOf41 rfl rfl (by rw [List.length_map, hsml]) rfl (one64 _) (by repeat (first | exact Upd.head | apply Upd.tail)) ?_)
          refine Tr.pTail rfl ?_
          refine TrP.hard rfl (W.storeAll (vs := ls.map U64) (cs := [0#64, 0#64, 0#64, 0#64, 0#64].map U64) Try.sizeOf41 rfl rfl (by rw [List.length_map, hlsl]) rfl (one64 _) (by repeat (first | exact Upd.head | apply Upd.tail)) ?_)
          refine Tr.pTail rfl ?_
          refine TrP.done ?_
          refine Tr.thenN ?_
          refine Tr.seq ?_
          refine Tr.regionD [0, 0, 3, 0, 0, 0, 7, 103, 247, 511, 1023, 2047] [11] (.soft 0 (.soft 1 (.soft 2 (.soft 3 (.soft 4 (.soft 5 (.soft 6 (.soft 7 (.soft 8 (.soft 9 (.pure 10 (.hard 11 .done)))))))))))) mixed (by kernel_rfl) ?_
          refine TrP.soft rfl (V.loadN (cs := aa.map U64) Try.isAgg41 (by rw [List.length_map, haal]; exact Try.sizeOf41) rfl (V.cellsB (by repeat (first | exact List.Mem.head _ | apply List.Mem.tail)))) rfl ?_
          refine TrP.soft rfl (V.loadN (cs := bb.map U64) Try.isAgg41 (by rw [List.length_map, hbbl]; exact Try.sizeOf41) rfl (V.cellsB (by repeat (first | exact List.Mem.head _ | apply List.Mem.tail)))) rfl ?_
          refine TrP.call rfl (args2 rfl rfl) Try.call23 rfl (fun w1 _ => by have h := emul_any aa bb w1 haal hbbl; rw [← hx2] at h; exact h) ?_
          refine TrP.soft rfl (V.loadN (cs := e.map U64) Try.isAgg41 (by rw [List.length_map, hel]; exact Try.sizeOf41) rfl (V.cellsB (by repeat (first | exact List.Mem.head _ | apply List.Mem.tail)))) rfl ?_
          refine TrP.soft rfl (V.loadN (cs := aa.map U64) Try.isAgg41 (by rw [List.length_map, haal]; exact Try.sizeOf41) rfl (V.cellsB (by repeat (first | exact List.Mem.head _ | apply List.Mem.tail)))) rfl ?_
          refine TrP.soft rfl (V.loadN (cs := e.map U64) Try.isAgg41 (by rw [List.length_map, hel]; exact Try.sizeOf41) rfl (V.cellsB (by repeat (first | exact List.Mem.head _ | apply List.Mem.tail)))) rfl ?_
          refine TrP.call rfl (vs := [U32 121665#32]) (args1 rfl) Try.call20 rfl (fun w1 _ => small_any 121665#32 w1) ?_
          refine TrP.call rfl (args2 rfl rfl) Try.call23 rfl (fun w1 _ => by have h := emul_any e (smallL 121665#32) w1 hel hsl; rw [← ht1] at h; exact h) ?_
          refine TrP.call rfl (args2 rfl rfl) Try.call34 rfl (fun w1 _ => by have h := eadd_any aa t1 w1 haal ht1l; rw [← ht2] at h; exact h) ?_
          refine TrP.call rfl (args2 rfl rfl) Try.call23 rfl (fun w1 _ => by have h := emul_any e t2 w1 hel ht2l; rw [← hz2] at h; exact h) ?_
          refine TrP.pure rfl (fun _ => (V.buildS (vs := [(0, .agg (x2.map U64).toArray), (1, .agg (z2.map U64).toArray)]) (pl := #[(0, 5), (5, 5)]) (cs := (x2.map U64 ++ z2.map U64).toArray) Try.runUnderlying47 Try.zeroValue47 (fun w => by simp [Try.sizeOf41]) (fun a he => by simp [he.eval (x := .tmp 58) (v := .agg (x2.map U64).toArray) rfl, he.eval (x := .tmp 65) (v := .agg (z2.map U64).toArray) rfl]) (fill_two rfl rfl (by rw [List.length_map, hx2l]) (by rw [List.length_map, hz2l]) rfl))) rfl ?_
          refine TrP.hard rfl (W.storeAll (vs := (x2.map U64 ++ z2.map U64)) (cs := (x.map U64 ++ z.map U64)) Try.sizeOf47 rfl rfl (by rw [List.length_append, List.length_map, List.length_map, hx2l, hz2l]) (by rw [List.length_append, List.length_map, List.length_map, hx, hz]) (one2 _ _) (by repeat (first | exact Upd.head | apply Upd.tail)) ?_)
          refine Tr.pTail rfl ?_
          refine TrP.done ?_
          refine Tr.thenN ?_
          refine Tr.seq ?_
          refine Tr.regionD [0, 0, 0, 6, 0, 0, 62, 0, 254, 510, 511, 2047] [10, 11] (.soft 0 (.soft 1 (.soft 2 (.soft 3 (.soft 4 (.soft 5 (.soft 6 (.soft 7 (.soft 8 (.pure 9 (.hard 10 (.hard 11 .done)))))))))))) mixed (by kernel_rfl) ?_
          refine TrP.soft rfl (V.loadN (cs := (x2.map U64 ++ z2.map U64)) Try.isAgg47 (by rw [List.length_append, List.length_map, List.length_map, hx2l, hz2l]; exact Try.sizeOf47) rfl (V.cellsB (by repeat (first | exact List.Mem.head _ | apply List.Mem.tail)))) rfl ?_
          refine TrP.soft rfl (V.loadN (cs := sm.map U64) Try.isAgg41 (by rw [List.length_map, hsml]; exact Try.sizeOf41) rfl (V.cellsB (by repeat (first | exact List.Mem.head _ | apply List.Mem.tail)))) rfl ?_
          refine TrP.soft rfl (V.loadN (cs := sm.map U64) Try.isAgg41 (by rw [List.length_map, hsml]; exact Try.sizeOf41) rfl (V.cellsB (by repeat (first | exact List.Mem.head _ | apply List.Mem.tail)))) rfl ?_
          refine TrP.call rfl (args2 rfl rfl) Try.call23 rfl (fun w1 _ => by have h := emul_any sm sm w1 hsml hsml; rw [← hx3] at h; exact h) ?_
          refine TrP.soft rfl (V.loadN (cs := ls.map U64) Try.isAgg41 (by rw [List.length_map, hlsl]; exact Try.sizeOf41) rfl (V.cellsB (by repeat (first | exact List.Mem.head _ | apply List.Mem.tail)))) rfl ?_
          refine TrP.soft rfl (V.loadN (cs := ls.map U64) Try.isAgg41 (by rw [List.length_map, hlsl]; exact Try.sizeOf41) rfl (V.cellsB (by repeat (first | exact List.Mem.head _ | apply List.Mem.tail)))) rfl ?_
          refine TrP.call rfl (args2 rfl rfl) Try.call23 rfl (fun w1 _ => by have h := emul_any ls ls w1 hlsl hlsl; rw [← ht3] at h; exact h) ?_
          refine TrP.soft rfl (V.loadN (cs := u.map U64) Try.isAgg41 (by rw [List.length_map, hul]; exact Try.sizeOf41) rfl (V.cellsB (by repeat (first | exact List.Mem.head _ | apply List.Mem.tail)))) rfl ?_
          refine TrP.call rfl (args2 rfl rfl) Try.call23 rfl (fun w1 _ => by have h := emul_any t3 u w1 ht3l hul; rw [← hz3] at h; exact h) ?_
          refine TrP.pure rfl (fun _ => (V.buildS (vs := [(0, .agg (x3.map U64).toArray), (1, .agg (z3.map U64).toArray)]) (pl := #[(0, 5), (5, 5)]) (cs := (x3.map U64 ++ z3.map U64).toArray) Try.runUnderlying47 Try.zeroValue47 (fun w => by simp [Try.sizeOf41]) (fun a he => by simp [he.eval (x := .tmp 70) (v := .agg (x3.map U64).toArray) rfl, he.eval (x := .tmp 75) (v := .agg (z3.map U64).toArray) rfl]) (fill_two rfl rfl (by rw [List.length_map, hx3l]) (by rw [List.length_map, hz3l]) rfl))) rfl ?_
          refine TrP.hard rfl (W.storeAll (vs := (x2.map U64 ++ z2.map U64)) (cs := (List.replicate 10 0#64).map U64) Try.sizeOf47 rfl rfl (by rw [List.length_append, List.length_map, List.length_map, hx2l, hz2l]) (by simp) (one2 _ _) (by repeat (first | exact Upd.head | apply Upd.tail)) ?_)
          refine Tr.pTail rfl ?_
          refine TrP.hard rfl (W.storeAll (vs := (x3.map U64 ++ z3.map U64)) (cs := (List.replicate 10 0#64).map U64) Try.sizeOf47 rfl rfl (by rw [List.length_append, List.length_map, List.length_map, hx3l, hz3l]) (by simp) (one2 _ _) (by repeat (first | exact Upd.head | apply Upd.tail)) ?_)
          refine Tr.pTail rfl ?_
          refine TrP.done ?_
          refine Tr.thenN ?_
          refine Tr.ret ?_
          refine Tr.out2 rfl (Res.cellN (cs := (x2.map U64 ++ z2.map U64)) rfl Try.isAgg47 (by rw [List.length_append, List.length_map, List.length_map, hx2l, hz2l]; exact Try.sizeOf47) (by repeat (first | exact List.Mem.head _ | apply List.Mem.tail))) (Res.cellN (cs := (x3.map U64 ++ z3.map U64)) rfl Try.isAgg47 (by rw [List.length_append, List.length_map, List.length_map, hx3l, hz3l]; exact Try.sizeOf47) (by repeat (first | exact List.Mem.head _ | apply List.Mem.tail))) fun w hw => ?_
          exact ⟨by rw [hD, hA]; rfl, hw.sub (List.nil_sublist _)⟩
      · refine W.alloc (cs := [0#64, 0#64, 0#64, 0#64, 0#64].map U64) Try.zeroValue41 rfl rfl fun g14 => ?_
        refine Tr.pOn (by first | exact List.Sublist.refl _ | exact List.sublist_cons_self _ _ | exact List.sublist_append_right _ _ | simp) ?_
        refine TrP.hard rfl (W.alloc (cs := [0#64, 0#64, 0#64, 0#64, 0#64].map U64) Try.zeroValue41 rfl rfl fun g13 => ?_)
        refine Tr.pOn (by first | exact List.Sublist.refl _ | exact List.sublist_cons_self _ _ | exact List.sublist_append_right _ _ | simp) ?_
        refine TrP.hard rfl (W.storeAll (vs := da.map U64) (cs := [0#64, 0#64, 0#64, 0#64, 0#64].map U64) Try.sizeOf41 rfl rfl (by rw [List.length_map, hdal]) rfl (one64 _) (by repeat (first | exact Upd.head | apply Upd.tail)) ?_)
        refine Tr.pTail rfl ?_
        refine TrP.hard rfl (W.storeAll (vs := cb.map U64) (cs := [0#64, 0#64, 0#64, 0#64, 0#64].map U64) Try.sizeOf41 rfl rfl (by rw [List.length_map, hcbl]) rfl (one64 _) (by repeat (first | exact Upd.head | apply Upd.tail)) ?_)
        refine Tr.pTail rfl ?_
        refine TrP.done ?_
        refine Tr.thenN ?_
        refine Tr.seq ?_
        refine Tr.regionD [0, 0, 3, 0, 0, 31, 0, 0, 255, 511] [8, 9] (.soft 0 (.soft 1 (.soft 2 (.soft 3 (.soft 4 (.soft 5 (.two 6 (.hard 7 (.hard 8 (.hard 9 .done))) 7 (.hard 6 (.hard 8 (.hard 9 .done)))))))))) mixed (by kernel_rfl) ?_
        refine TrP.soft rfl (V.loadN (cs := da.map U64) Try.isAgg41 (by rw [List.length_map, hdal]; exact Try.sizeOf41) rfl (V.cellsB (by repeat (first | exact List.Mem.head _ | apply List.Mem.tail)))) rfl ?_
        refine TrP.soft rfl (V.loadN (cs := cb.map U64) Try.isAgg41 (by rw [List.length_map, hcbl]; exact Try.sizeOf41) rfl (V.cellsB (by repeat (first | exact List.Mem.head _ | apply List.Mem.tail)))) rfl ?_
        refine TrP.call rfl (args2 rfl rfl) Try.call34 rfl (fun w1 _ => by have h := eadd_any da cb w1 hdal hcbl; rw [← hsm] at h; exact h) ?_
        refine TrP.soft rfl (V.loadN (cs := da.map U64) Try.isAgg41 (by rw [List.length_map, hdal]; exact Try.sizeOf41) rfl (V.cellsB (by repeat (first | exact List.Mem.head _ | apply List.Mem.tail)))) rfl ?_
        refine TrP.soft rfl (V.loadN (cs := cb.map U64) Try.isAgg41 (by rw [List.length_map, hcbl]; exact Try.sizeOf41) rfl (V.cellsB (by repeat (first | exact List.Mem.head _ | apply List.Mem.tail)))) rfl ?_
        refine TrP.call rfl (args2 rfl rfl) Try.call35 rfl (fun w1 _ => by have h := esub_any da cb w1 hdal hcbl; rw [← hls] at h; exact h) ?_
        refine TrP.two rfl rfl ?_ ?_
        · refine W.alloc (cs := [0#64, 0#64, 0#64, 0#64, 0#64].map U64) Try.zeroValue41 rfl rfl fun g15 => ?_
          refine Tr.pOn (by first | exact List.Sublist.refl _ | exact List.sublist_cons_self _ _ | exact List.sublist_append_right _ _ | simp) ?_
          refine TrP.hard rfl (W.alloc (cs := [0#64, 0#64, 0#64, 0#64, 0#64].map U64) Try.zeroValue41 rfl rfl fun g16 => ?_)
          refine Tr.pOn (by first | exact List.Sublist.refl _ | exact List.sublist_cons_self _ _ | exact List.sublist_append_right _ _ | simp) ?_
          refine TrP.hard rfl (W.storeAll (vs := sm.map U64) (cs := [0#64, 0#64, 0#64, 0#64, 0#64].map U64) Try.sizeOf41 rfl rfl (by rw [List.length_map, hsml]) rfl (one64 _) (by repeat (first | exact Upd.head | apply Upd.tail)) ?_)
          refine Tr.pTail rfl ?_
          refine TrP.hard rfl (W.storeAll (vs := ls.map U64) (cs := [0#64, 0#64, 0#64, 0#64, 0#64].map U64) Try.sizeOf41 rfl rfl (by rw [List.length_map, hlsl]) rfl (one64 _) (by repeat (first | exact Upd.head | apply Upd.tail)) ?_)
          refine Tr.pTail rfl ?_
          refine TrP.done ?_
          refine Tr.thenN ?_
          refine Tr.seq ?_
          refine Tr.regionD [0, 0, 3, 0, 0, 0, 7, 103, 247, 511, 1023, 2047] [11] (.soft 0 (.soft 1 (.soft 2 (.soft 3 (.soft 4 (.soft 5 (.soft 6 (.soft 7 (.soft 8 (.soft 9 (.pure 10 (.hard 11 .done)))))))))))) mixed (by kernel_rfl) ?_
          refine TrP.soft rfl (V.loadN (cs := aa.map U64) Try.isAgg41 (by rw [List.length_map, haal]; exact Try.sizeOf41) rfl (V.cellsB (by repeat (first | exact List.Mem.head _ | apply List.Mem.tail)))) rfl ?_
          refine TrP.soft rfl (V.loadN (cs := bb.map U64) Try.isAgg41 (by rw [List.length_map, hbbl]; exact Try.sizeOf41) rfl (V.cellsB (by repeat (first | exact List.Mem.head _ | apply List.Mem.tail)))) rfl ?_
          refine TrP.call rfl (args2 rfl rfl) Try.call23 rfl (fun w1 _ => by have h := emul_any aa bb w1 haal hbbl; rw [← hx2] at h; exact h) ?_
          refine TrP.soft rfl (V.loadN (cs := e.map U64) Try.isAgg41 (by rw [List.length_map, hel]; exact Try.sizeOf41) rfl (V.cellsB (by repeat (first | exact List.Mem.head _ | apply List.Mem.tail)))) rfl ?_
          refine TrP.soft rfl (V.loadN (cs := aa.map U64) Try.isAgg41 (by rw [List.length_map, haal]; exact Try.sizeOf41) rfl (V.cellsB (by repeat (first | exact List.Mem.head _ | apply List.Mem.tail)))) rfl ?_
          refine TrP.soft rfl (V.loadN (cs := e.map U64) Try.isAgg41 (by rw [List.length_map, hel]; exact Try.sizeOf41) rfl (V.cellsB (by repeat (first | exact List.Mem.head _ | apply List.Mem.tail)))) rfl ?_
          refine TrP.call rfl (vs := [U32 121665#32]) (args1 rfl) Try.call20 rfl (fun w1 _ => small_any 121665#32 w1) ?_
          refine TrP.call rfl (args2 rfl rfl) Try.call23 rfl (fun w1 _ => by have h := emul_any e (smallL 121665#32) w1 hel hsl; rw [← ht1] at h; exact h) ?_
          refine TrP.call rfl (args2 rfl rfl) Try.call34 rfl (fun w1 _ => by have h := eadd_any aa t1 w1 haal ht1l; rw [← ht2] at h; exact h) ?_
          refine TrP.call rfl (args2 rfl rfl) Try.call23 rfl (fun w1 _ => by have h := emul_any e t2 w1 hel ht2l; rw [← hz2] at h; exact h) ?_
          refine TrP.pure rfl (fun _ => (V.buildS (vs := [(0, .agg (x2.map U64).toArray), (1, .agg (z2.map U64).toArray)]) (pl := #[(0, 5), (5, 5)]) (cs := (x2.map U64 ++ z2.map U64).toArray) Try.runUnderlying47 Try.zeroValue47 (fun w => by simp [Try.sizeOf41]) (fun a he => by simp [he.eval (x := .tmp 58) (v := .agg (x2.map U64).toArray) rfl, he.eval (x := .tmp 65) (v := .agg (z2.map U64).toArray) rfl]) (fill_two rfl rfl (by rw [List.length_map, hx2l]) (by rw [List.length_map, hz2l]) rfl))) rfl ?_
          refine TrP.hard rfl (W.storeAll (vs := (x2.map U64 ++ z2.map U64)) (cs := (x.map U64 ++ z.map U64)) Try.sizeOf47 rfl rfl (by rw [List.length_append, List.length_map, List.length_map, hx2l, hz2l]) (by rw [List.length_append, List.length_map, List.length_map, hx, hz]) (one2 _ _) (by repeat (first | exact Upd.head | apply Upd.tail)) ?_)
          refine Tr.pTail rfl ?_
          refine TrP.done ?_
          refine Tr.thenN ?_
          refine Tr.seq ?_
          refine Tr.regionD [0, 0, 0, 6, 0, 0, 62, 0, 254, 510, 511, 2047] [10, 11] (.soft 0 (.soft 1 (.soft 2 (.soft 3 (.soft 4 (.soft 5 (.soft 6 (.soft 7 (.soft 8 (.pure 9 (.hard 10 (.hard 11 .done)))))))))))) mixed (by kernel_rfl) ?_
          refine TrP.soft rfl (V.loadN (cs := (x2.map U64 ++ z2.map U64)) Try.isAgg47 (by rw [List.length_append, List.length_map, List.length_map, hx2l, hz2l]; exact Try.sizeOf47) rfl (V.cellsB (by repeat (first | exact List.Mem.head _ | apply List.Mem.tail)))) rfl ?_
          refine TrP.soft rfl (V.loadN (cs := sm.map U64) Try.isAgg41 (by rw [List.length_map, hsml]; exact Try.sizeOf41) rfl (V.cellsB (by repeat (first | exact List.Mem.head _ | apply List.Mem.tail)))) rfl ?_
          refine TrP.soft rfl (V.loadN (cs := sm.map U64) Try.isAgg41 (by rw [List.length_map, hsml]; exact Try.sizeOf41) rfl (V.cellsB (by repeat (first | exact List.Mem.head _ | apply List.Mem.tail)))) rfl ?_
          refine TrP.call rfl (args2 rfl rfl) Try.call23 rfl (fun w1 _ => by have h := emul_any sm sm w1 hsml hsml; rw [← hx3] at h; exact h) ?_
          refine TrP.soft rfl (V.loadN (cs := ls.map U64) Try.isAgg41 (by rw [List.length_map, hlsl]; exact Try.sizeOf41) rfl (V.cellsB (by repeat (first | exact List.Mem.head _ | apply List.Mem.tail)))) rfl ?_
          refine TrP.soft rfl (V.loadN (cs := ls.map U64) Try.isAgg41 (by rw [List.length_map, hlsl]; exact Try.sizeOf41) rfl (V.cellsB (by repeat (first | exact List.Mem.head _ | apply List.Mem.tail)))) rfl ?_
          refine TrP.call rfl (args2 rfl rfl) Try.call23 rfl (fun w1 _ => by have h := emul_any ls ls w1 hlsl hlsl; rw [← ht3] at h; exact h) ?_
          refine TrP.soft rfl (V.loadN (cs := u.map U64) Try.isAgg41 (by rw [List.length_map, hul]; exact Try.sizeOf41) rfl (V.cellsB (by repeat (first | exact List.Mem.head _ | apply List.Mem.tail)))) rfl ?_
          refine TrP.call rfl (args2 rfl rfl) Try.call23 rfl (fun w1 _ => by have h := emul_any t3 u w1 ht3l hul; rw [← hz3] at h; exact h) ?_
          refine TrP.pure rfl (fun _ => (V.buildS (vs := [(0, .agg (x3.map U64).toArray), (1, .agg (z3.map U64).toArray)]) (pl := #[(0, 5), (5, 5)]) (cs := (x3.map U64 ++ z3.map U64).toArray) Try.runUnderlying47 Try.zeroValue47 (fun w => by simp [Try.sizeOf41]) (fun a he => by simp [he.eval (x := .tmp 70) (v := .agg (x3.map U64).toArray) rfl, he.eval (x := .tmp 75) (v := .agg (z3.map U64).toArray) rfl]) (fill_two rfl rfl (by rw [List.length_map, hx3l]) (by rw [List.length_map, hz3l]) rfl))) rfl ?_
          refine TrP.hard rfl (W.storeAll (vs := (x2.map U64 ++ z2.map U64)) (cs := (List.replicate 10 0#64).map U64) Try.sizeOf47 rfl rfl (by rw [List.length_append, List.length_map, List.length_map, hx2l, hz2l]) (by simp) (one2 _ _) (by repeat (first | exact Upd.head | apply Upd.tail)) ?_)
          refine Tr.pTail rfl ?_
          refine TrP.hard rfl (W.storeAll (vs := (x3.map U64 ++ z3.map U64)) (cs := (List.replicate 10 0#64).map U64) Try.sizeOf47 rfl rfl (by rw [List.length_append, List.length_map, List.length_map, hx3l, hz3l]) (by simp) (one2 _ _) (by repeat (first | exact Upd.head | apply Upd.tail)) ?_)
          refine Tr.pTail rfl ?_
          refine TrP.done ?_
          refine Tr.thenN ?_
          refine Tr.ret ?_
          refine Tr.out2 rfl (Res.cellN (cs := (x2.map U64 ++ z2.map U64)) rfl Try.isAgg47 (by rw [List.length_append, List.length_map, List.length_map, hx2l, hz2l]; exact Try.sizeOf47) (by repeat (first | exact List.Mem.head _ | apply List.Mem.tail))) (Res.cellN (cs := (x3.map U64 ++ z3.map U64)) rfl Try.isAgg47 (by rw [List.length_append, List.length_map, List.length_map, hx3l, hz3l]; exact Try.sizeOf47) (by repeat (first | exact List.Mem.head _ | apply List.Mem.tail))) fun w hw => ?_
          exact ⟨by rw [hD, hA]; rfl, hw.sub (List.nil_sublist _)⟩
        · refine W.alloc (cs := [0#64, 0#64, 0#64, 0#64, 0#64].map U64) Try.zeroValue41 rfl rfl fun g16 => ?_
          refine Tr.pOn (by first | exact List.Sublist.refl _ | exact List.sublist_cons_self _ _ | exact List.sublist_append_right _ _ | simp) ?_
          refine TrP.hard rfl (W.alloc (cs := [0#64, 0#64, 0#64, 0#64, 0#64].map U64) Try.zeroValue41 rfl rfl fun g15 => ?_)
          refine Tr.pOn (by first | exact List.Sublist.refl _ | exact List.sublist_cons_self _ _ | exact List.sublist_append_right _ _ | simp) ?_
          refine TrP.hard rfl (W.storeAll (vs := sm.map U64) (cs := [0#64, 0#64, 0#64, 0#64, 0#64].map U64) Try.sizeOf41 rfl rfl (by rw [List.length_map, hsml]) rfl (one64 _) (by repeat (first | exact Upd.head | apply Upd.tail)) ?_)
          refine Tr.pTail rfl ?_
          refine TrP.hard rfl (W.storeAll (vs := ls.map U64) (cs := [0#64, 0#64, 0#64, 0#64, 0#64].map U64) Try.sizeOf41 rfl rfl (by rw [List.length_map, hlsl]) rfl (one64 _) (by repeat (first | exact Upd.head | apply Upd.tail)) ?_)
          refine Tr.pTail rfl ?_
          refine TrP.done ?_
          refine Tr.thenN ?_
          refine Tr.seq ?_
          refine Tr.regionD [0, 0, 3, 0, 0, 0, 7, 103, 247, 511, 1023, 2047] [11] (.soft 0 (.soft 1 (.soft 2 (.soft 3 (.soft 4 (.soft 5 (.soft 6 (.soft 7 (.soft 8 (.soft 9 (.pure 10 (.hard 11 .done)))))))))))) mixed (by kernel_rfl) ?_
          refine TrP.soft rfl (V.loadN (cs := aa.map U64) Try.isAgg41 (by rw [List.length_map, haal]; exact Try.sizeOf41) rfl (V.cellsB (by repeat (first | exact List.Mem.head _ | apply List.Mem.tail)))) rfl ?_
          refine TrP.soft rfl (V.loadN (cs := bb.map U64) Try.isAgg41 (by rw [List.length_map, hbbl]; exact Try.sizeOf41) rfl (V.cellsB (by repeat (first | exact List.Mem.head _ | apply List.Mem.tail)))) rfl ?_
          refine TrP.call rfl (args2 rfl rfl) Try.call23 rfl (fun w1 _ => by have h := emul_any aa bb w1 haal hbbl; rw [← hx2] at h; exact h) ?_
          refine TrP.soft rfl (V.loadN (cs := e.map U64) Try.isAgg41 (by rw [List.length_map, hel]; exact Try.sizeOf41) rfl (V.cellsB (by repeat (first | exact List.Mem.head _ | apply List.Mem.tail)))) rfl ?_
          refine TrP.soft rfl (V.loadN (cs := aa.map U64) Try.isAgg41 (by rw [List.length_map, haal]; exact Try.sizeOf41) rfl (V.cellsB (by repeat (first | exact List.Mem.head _ | apply List.Mem.tail)))) rfl ?_
          refine TrP.soft rfl (V.loadN (cs := e.map U64) Try.isAgg41 (by rw [List.length_map, hel]; exact Try.sizeOf41) rfl (V.cellsB (by repeat (first | exact List.Mem.head _ | apply List.Mem.tail)))) rfl ?_
          refine TrP.call rfl (vs := [U32 121665#32]) (args1 rfl) Try.call20 rfl (fun w1 _ => small_any 121665#32 w1) ?_
          refine TrP.call rfl (args2 rfl rfl) Try.call23 rfl (fun w1 _ => by have h := emul_any e (smallL 121665#32) w1 hel hsl; rw [← ht1] at h; exact h) ?_
          refine TrP.call rfl (args2 rfl rfl) Try.call34 rfl (fun w1 _ => by have h := eadd_any aa t1 w1 haal ht1l; rw [← ht2] at h; exact h) ?_
          refine TrP.call rfl (args2 rfl rfl) Try.call23 rfl (fun w1 _ => by have h := emul_any e t2 w1 hel ht2l; rw [← hz2] at h; exact h) ?_
          refine TrP.pure rfl (fun _ => (V.buildS (vs := [(0, .agg (x2.map U64).toArray), (1, .agg (z2.map U64).toArray)]) (pl := #[(0, 5), (5, 5)]) (cs := (x2.map U64 ++ z2.map U64).toArray) Try.runUnderlying47 Try.zeroValue47 (fun w => by simp [Try.sizeOf41]) (fun a he => by simp [he.eval (x := .tmp 58) (v := .agg (x2.map U64).toArray) rfl, he.eval (x := .tmp 65) (v := .agg (z2.map U64).toArray) rfl]) (fill_two rfl rfl (by rw [List.length_map, hx2l]) (by rw [List.length_map, hz2l]) rfl))) rfl ?_
          refine TrP.hard rfl (W.storeAll (vs := (x2.map U64 ++ z2.map U64)) (cs := (x.map U64 ++ z.map U64)) Try.sizeOf47 rfl rfl (by rw [List.length_append, List.length_map, List.length_map, hx2l, hz2l]) (by rw [List.length_append, List.length_map, List.length_map, hx, hz]) (one2 _ _) (by repeat (first | exact Upd.head | apply Upd.tail)) ?_)
          refine Tr.pTail rfl ?_
          refine TrP.done ?_
          refine Tr.thenN ?_
          refine Tr.seq ?_
          refine Tr.regionD [0, 0, 0, 6, 0, 0, 62, 0, 254, 510, 511, 2047] [10, 11] (.soft 0 (.soft 1 (.soft 2 (.soft 3 (.soft 4 (.soft 5 (.soft 6 (.soft 7 (.soft 8 (.pure 9 (.hard 10 (.hard 11 .done)))))))))))) mixed (by kernel_rfl) ?_
          refine TrP.soft rfl (V.loadN (cs := (x2.map U64 ++ z2.map U64)) Try.isAgg47 (by rw [List.length_append, List.length_map, List.length_map, hx2l, hz2l]; exact Try.sizeOf47) rfl (V.cellsB (by repeat (first | exact List.Mem.head _ | apply List.Mem.tail)))) rfl ?_
          refine TrP.soft rfl (V.loadN (cs := sm.map U64) Try.isAgg41 (by rw [List.length_map, hsml]; exact Try.sizeOf41) rfl (V.cellsB (by repeat (first | exact List.Mem.head _ | apply List.Mem.tail)))) rfl ?_
          refine TrP.soft rfl (V.loadN (cs := sm.map U64) Try.isAgg41 (by rw [List.length_map, hsml]; exact Try.sizeOf41) rfl (V.cellsB (by repeat (first | exact List.Mem.head _ | apply List.Mem.tail)))) rfl ?_
          refine TrP.call rfl (args2 rfl rfl) Try.call23 rfl (fun w1 _ => by have h := emul_any sm sm w1 hsml hsml; rw [← hx3] at h; exact h) ?_
          refine TrP.soft rfl (V.loadN (cs := ls.map U64) Try.isAgg41 (by rw [List.length_map, hlsl]; exact Try.sizeOf41) rfl (V.cellsB (by repeat (first | exact List.Mem.head _ | apply List.Mem.tail)))) rfl ?_
          refine TrP.soft rfl (V.loadN (cs := ls.map U64) Try.isAgg41 (by rw [List.length_map, hlsl]; exact Try.sizeOf41) rfl (V.cellsB (by repeat (first | exact List.Mem.head _ | apply List.Mem.tail)))) rfl ?_
          refine TrP.call rfl (args2 rfl rfl) Try.call23 rfl (fun w1 _ => by have h := emul_any ls ls w1 hlsl hlsl; rw [← ht3] at h; exact h) ?_
          refine TrP.soft rfl (V.loadN (cs := u.map U64) Try.isAgg41 (by rw [List.length_map, hul]; exact Try.sizeOf41) rfl (V.cellsB (by repeat (first | exact List.Mem.head _ | apply List.Mem.tail)))) rfl ?_
          refine TrP.call rfl (args2 rfl rfl) Try.call23 rfl (fun w1 _ => by have h := emul_any t3 u w1 ht3l hul; rw [← hz3] at h; exact h) ?_
          refine TrP.pure rfl (fun _ => (V.buildS (vs := [(0, .agg (x3.map U64).toArray), (1, .agg (z3.map U64).toArray)]) (pl := #[(0, 5), (5, 5)]) (cs := (x3.map U64 ++ z3.map U64).toArray) Try.runUnderlying47 Try.zeroValue47 (fun w => by simp [Try.sizeOf41]) (fun a he => by simp [he.eval (x := .tmp 70) (v := .agg (x3.map U64).toArray) rfl, he.eval (x := .tmp 75) (v := .agg (z3.map U64).toArray) rfl]) (fill_two rfl rfl (by rw [List.length_map, hx3l]) (by rw [List.length_map, hz3l]) rfl))) rfl ?_
          refine TrP.hard rfl (W.storeAll (vs := (x2.map U64 ++ z2.map U64)) (cs := (List.replicate 10 0#64).map U64) Try.sizeOf47 rfl rfl (by rw [List.length_append, List.length_map, List.length_map, hx2l, hz2l]) (by simp) (one2 _ _) (by repeat (first | exact Upd.head | apply Upd.tail)) ?_)
          refine Tr.pTail rfl ?_
          refine TrP.hard rfl (W.storeAll (vs := (x3.map U64 ++ z3.map U64)) (cs := (List.replicate 10 0#64).map U64) Try.sizeOf47 rfl rfl (by rw [List.length_append, List.length_map, List.length_map, hx3l, hz3l]) (by simp) (one2 _ _) (by repeat (first | exact Upd.head | apply Upd.tail)) ?_)
          refine Tr.pTail rfl ?_
          refine TrP.done ?_
          refine Tr.thenN ?_
          refine Tr.ret ?_
          refine Tr.out2 rfl (Res.cellN (cs := (x2.map U64 ++ z2.map U64)) rfl Try.isAgg47 (by rw [List.length_append, List.length_map, List.length_map, hx2l, hz2l]; exact Try.sizeOf47) (by repeat (first | exact List.Mem.head _ | apply List.Mem.tail))) (Res.cellN (cs := (x3.map U64 ++ z3.map U64)) rfl Try.isAgg47 (by rw [List.length_append, List.length_map, List.length_map, hx3l, hz3l]; exact Try.sizeOf47) (by repeat (first | exact List.Mem.head _ | apply List.Mem.tail))) fun w hw => ?_
          exact ⟨by rw [hD, hA]; rfl, hw.sub (List.nil_sublist _)⟩
  · refine W.alloc (cs := [0#64, 0#64, 0#64, 0#64, 0#64].map U64) Try.zeroValue41 rfl rfl fun g9 => ?_
    refine Tr.pOn (by first | exact List.Sublist.refl _ | exact List.sublist_cons_self _ _ | exact List.sublist_append_right _ _ | simp) ?_
    refine TrP.hard rfl (W.alloc (cs := [0#64, 0#64, 0#64, 0#64, 0#64].map U64) Try.zeroValue41 rfl rfl fun g8 => ?_)
    refine Tr.pOn (by first | exact List.Sublist.refl _ | exact List.sublist_cons_self _ _ | exact List.sublist_append_right _ _ | simp) ?_
    refine TrP.hard rfl (W.storeAll (vs := a.map U64) (cs := [0#64, 0#64, 0#64, 0#64, 0#64].map U64) Try.sizeOf41 rfl rfl (by rw [List.length_map, hal]) rfl (one64 _) (by repeat (first | exact Upd.head | apply Upd.tail)) ?_)
    refine Tr.pTail rfl ?_
    refine TrP.hard rfl (W.storeAll (vs := b.map U64) (cs := [0#64, 0#64, 0#64, 0#64, 0#64].map U64) Try.sizeOf41 rfl rfl (by rw [List.length_map, hbl]) rfl (one64 _) (by repeat (first | exact Upd.head | apply Upd.tail)) ?_)
    refine Tr.pTail rfl ?_
    refine TrP.done ?_
    refine Tr.thenN ?_
    refine Tr.seq ?_
    refine Tr.regionD [0, 0, 3, 0, 0, 31, 0, 0, 255, 511] [8, 9] (.soft 0 (.soft 1 (.soft 2 (.soft 3 (.soft 4 (.soft 5 (.two 6 (.hard 7 (.hard 8 (.hard 9 .done))) 7 (.hard 6 (.hard 8 (.hard 9 .done)))))))))) mixed (by kernel_rfl) ?_
    refine TrP.soft rfl (V.loadN (cs := a.map U64) Try.isAgg41 (by rw [List.length_map, hal]; exact Try.sizeOf41) rfl (V.cellsB (by repeat (first | exact List.Mem.head _ | apply List.Mem.tail)))) rfl ?_
    refine TrP.soft rfl (V.loadN (cs := a.map U64) Try.isAgg41 (by rw [List.length_map, hal]; exact Try.sizeOf41) rfl (V.cellsB (by repeat (first | exact List.Mem.head _ | apply List.Mem.tail)))) rfl ?_
    refine TrP.call rfl (args2 rfl rfl) Try.call23 rfl (fun w1 _ => by have h := emul_any a a w1 hal hal; rw [← haa] at h; exact h) ?_
    refine TrP.soft rfl (V.loadN (cs := b.map U64) Try.isAgg41 (by rw [List.length_map, hbl]; exact Try.sizeOf41) rfl (V.cellsB (by repeat (first | exact List.Mem.head _ | apply List.Mem.tail)))) rfl ?_
    refine TrP.soft rfl (V.loadN (cs := b.map U64) Try.isAgg41 (by rw [List.length_map, hbl]; exact Try.sizeOf41) rfl (V.cellsB (by repeat (first | exact List.Mem.head _ | apply List.Mem.tail)))) rfl ?_
    refine TrP.call rfl (args2 rfl rfl) Try.call23 rfl (fun w1 _ => by have h := emul_any b b w1 hbl hbl; rw [← hbb] at h; exact h) ?_
    refine TrP.two rfl rfl ?_ ?_
    · refine W.alloc (cs := [0#64, 0#64, 0#64, 0#64, 0#64].map U64) Try.zeroValue41 rfl rfl fun g10 => ?_
      refine Tr.pOn (by first | exact List.Sublist.refl _ | exact List.sublist_cons_self _ _ | exact List.sublist_append_right _ _ | simp) ?_
      refine TrP.hard rfl (W.alloc (cs := [0#64, 0#64, 0#64, 0#64, 0#64].map U64) Try.zeroValue41 rfl rfl fun g11 => ?_)
      refine Tr.pOn (by first | exact List.Sublist.refl _ | exact List.sublist_cons_self _ _ | exact List.sublist_append_right _ _ | simp) ?_
      refine TrP.hard rfl (W.storeAll (vs := aa.map U64) (cs := [0#64, 0#64, 0#64, 0#64, 0#64].map U64) Try.sizeOf41 rfl rfl (by rw [List.length_map, haal]) rfl (one64 _) (by repeat (first | exact Upd.head | apply Upd.tail)) ?_)
      refine Tr.pTail rfl ?_
      refine TrP.hard rfl (W.storeAll (vs := bb.map U64) (cs := [0#64, 0#64, 0#64, 0#64, 0#64].map U64) Try.sizeOf41 rfl rfl (by rw [List.length_map, hbbl]) rfl (one64 _) (by repeat (first | exact Upd.head | apply Upd.tail)) ?_)
      refine Tr.pTail rfl ?_
      refine TrP.done ?_
      refine Tr.thenN ?_
      refine Tr.seq ?_
      refine Tr.region ?_
      refine Tr.val (V.loadN (cs := aa.map U64) Try.isAgg41 (by rw [List.length_map, haal]; exact Try.sizeOf41) rfl (V.cellsB (by repeat (first | exact List.Mem.head _ | apply List.Mem.tail)))) rfl ?_
      refine Tr.val (V.loadN (cs := bb.map U64) Try.isAgg41 (by rw [List.length_map, hbbl]; exact Try.sizeOf41) rfl (V.cellsB (by repeat (first | exact List.Mem.head _ | apply List.Mem.tail)))) rfl ?_
      refine Tr.op (W.call1 (args2 rfl rfl) Try.call35 rfl (fun w1 _ => by have h := esub_any aa bb w1 haal hbbl; rw [← he] at h; exact h) ?_)
      refine Tr.op (W.alloc (cs := [0#64, 0#64, 0#64, 0#64, 0#64].map U64) Try.zeroValue41 rfl rfl fun g12 => ?_)
      refine Tr.op (W.storeAll (vs := e.map U64) (cs := [0#64, 0#64, 0#64, 0#64, 0#64].map U64) Try.sizeOf41 rfl rfl (by rw [List.length_map, hel]) rfl (one64 _) (by repeat (first | exact Upd.head | apply Upd.tail)) ?_)
      refine Tr.lNil ?_
      refine Tr.thenN ?_
      refine Tr.seq ?_
      refine Tr.regionD [0, 1, 0, 4, 15, 0, 63, 0, 128, 0, 512, 2047, 0, 8191, 0, 0, 65535, 131071] [16, 17] (.pure 0 (.soft 1 (.pure 2 (.soft 3 (.soft 4 (.soft 5 (.soft 6 (.pure 7 (.soft 8 (.pure 9 (.soft 10 (.soft 11 (.soft 12 (.soft 13 (.two 14 (.hard 15 (.hard 16 (.hard 17 .done))) 15 (.hard 14 (.hard 16 (.hard 17 .done)))))))))))))))))) mixed (by kernel_rfl) ?_
      refine TrP.pure rfl (fun _ => V.fieldS (o' := 0) Try.runUnderlying47 rfl rfl Try.sizeOf41 (by omega) rfl) rfl ?_
      refine TrP.soft rfl (V.loadN (cs := qx.map U64) Try.isAgg41 (by rw [List.length_map, hqx]; exact Try.sizeOf41) rfl (V.cellsO (pre := []) (post := qz.map U64) (by repeat (first | exact List.Mem.head _ | apply List.Mem.tail)) rfl rfl)) rfl ?_
      refine TrP.pure rfl (fun _ => V.fieldS (o' := 5) Try.runUnderlying47 rfl rfl Try.sizeOf41 (by omega) rfl) rfl ?_
      refine TrP.soft rfl (V.loadN (cs := qz.map U64) Try.isAgg41 (by rw [List.length_map, hqz]; exact Try.sizeOf41) rfl (V.cellsO (pre := qx.map U64) (post := []) (by repeat (first | exact List.Mem.head _ | apply List.Mem.tail)) (List.append_nil _).symm (by rw [List.length_map, hqx]))) rfl ?_
      refine TrP.call rfl (args2 rfl rfl) Try.call35 rfl (fun w1 _ => by have h := esub_any qx qz w1 hqx hqz; rw [← hd1] at h; exact h) ?_
      refine TrP.soft rfl (V.loadN (cs := a.map U64) Try.isAgg41 (by rw [List.length_map, hal]; exact Try.sizeOf41) rfl (V.cellsB (by repeat (first | exact List.Mem.head _ | apply List.Mem.tail)))) rfl ?_
      refine TrP.call rfl (args2 rfl rfl) Try.call23 rfl (fun w1 _ => by have h := emul_any d1 a w1 hd1l hal; rw [← hda] at h; exact h) ?_
      refine TrP.pure rfl (fun _ => V.fieldS (o' := 0) Try.runUnderlying47 rfl rfl Try.sizeOf41 (by omega) rfl) rfl ?_
      refine TrP.soft rfl (V.loadN (cs := qx.map U64) Try.isAgg41 (by rw [List.length_map, hqx]; exact Try.sizeOf41) rfl (V.cellsO (pre := []) (post := qz.map U64) (by repeat (first | exact List.Mem.head _ | apply List.Mem.tail)) rfl rfl)) rfl ?_
      refine TrP.pure rfl (fun _ => V.fieldS (o' := 5) Try.runUnderlying47 rfl rfl Try.sizeOf41 (by omega) rfl) rfl ?_
      refine TrP.soft rfl (V.loadN (cs := qz.map U64) Try.isAgg41 (by rw [List.length_map, hqz]; exact Try.sizeOf41) rfl (V.cellsO (pre := qx.map U64) (post := []) (by repeat (first | exact List.Mem.head _ | apply List.Mem.tail)) (List.append_nil _).symm (by rw [List.length_map, hqx]))) rfl ?_
      refine TrP.call rfl (args2 rfl rfl) Try.call34 rfl (fun w1 _ => by have h := eadd_any qx qz w1 hqx hqz; rw [← hs1] at h; exact h) ?_
      refine TrP.soft rfl (V.loadN (cs := b.map U64) Try.isAgg41 (by rw [List.length_map, hbl]; exact Try.sizeOf41) rfl (V.cellsB (by repeat (first | exact List.Mem.head _ | apply List.Mem.tail)))) rfl ?_
      refine TrP.call rfl (args2 rfl rfl) Try.call23 rfl (fun w1 _ => by have h := emul_any s1 b w1 hs1l hbl; rw [← hcb] at h; exact h) ?_
      refine TrP.two rfl rfl ?_ ?_
      · refine W.alloc (cs := [0#64, 0#64, 0#64, 0#64, 0#64].map U64) Try.zeroValue41 rfl rfl fun g13 => ?_
        refine Tr.pOn (by first | exact List.Sublist.refl _ | exact List.sublist_cons_self _ _ | exact List.sublist_append_right _ _ | simp) ?_
        refine TrP.hard rfl (W.alloc (cs := [0#64, 0#64, 0#64, 0#64, 0#64].map U64) Try.zeroValue41 rfl rfl fun g14 => ?_)
        refine Tr.pOn (by first | exact List.Sublist.refl _ | exact List.sublist_cons_self _ _ | exact List.sublist_append_right _ _ | simp) ?_
        refine TrP.hard rfl (W.storeAll (vs := da.map U64) (cs := [0#64, 0#64, 0#64, 0#64, 0#64].map U64) Try.sizeOf41 rfl rfl (by rw [List.length_map, hdal]) rfl (one64 _) (by repeat (first | exact Upd.head | apply Upd.tail)) ?_)
        refine Tr.pTail rfl ?_
        refine TrP.hard rfl (W.storeAll (vs := cb.map U64) (cs := [0#64, 0#64, 0#64, 0#64, 0#64].map U64) Try.sizeOf41 rfl rfl (by rw [List.length_map, hcbl]) rfl (one64 _) (by repeat (first | exact Upd.head | apply Upd.tail)) ?_)
        refine Tr.pTail rfl ?_
        refine TrP.done ?_
        refine Tr.thenN ?_
        refine Tr.seq ?_
        refine Tr.regionD [0, 0, 3, 0, 0, 31, 0, 0, 255, 511] [8, 9] (.soft 0 (.soft 1 (.soft 2 (.soft 3 (.soft 4 (.soft 5 (.two 6 (.hard 7 (.hard 8 (.hard 9 .done))) 7 (.hard 6 (.hard 8 (.hard 9 .done)))))))))) mixed (by kernel_rfl) ?_
        refine TrP.soft rfl (V.loadN (cs := da.map U64) Try.isAgg41 (by rw [List.length_map, hdal]; exact Try.sizeOf41) rfl (V.cellsB (by repeat (first | exact List.Mem.head _ | apply List.Mem.tail)))) rfl ?_
        refine TrP.soft rfl (V.loadN (cs := cb.map U64) Try.isAgg41 (by rw [List.length_map, hcbl]; exact Try.sizeOf41) rfl (V.cellsB (by repeat (first | exact List.Mem.head _ | apply List.Mem.tail)))) rfl ?_
        refine TrP.call rfl (args2 rfl rfl) Try.call34 rfl (fun w1 _ => by have h := eadd_any da cb w1 hdal hcbl; rw [← hsm] at h; exact h) ?_
        refine TrP.soft rfl (V.loadN (cs := da.map U64) Try.isAgg41 (by rw [List.length_map, hdal]; exact Try.sizeOf41) rfl (V.cellsB (by repeat (first | exact List.Mem.head _ | apply List.Mem.tail)))) rfl ?_
        refine TrP.soft rfl (V.loadN (cs := cb.map U64) Try.isAgg41 (by rw [List.length_map, hcbl]; exact Try.sizeOf41) rfl (V.cellsB (by repeat (first | exact List.Mem.head _ | apply List.Mem.tail)))) rfl ?_
        refine TrP.call rfl (args2 rfl rfl) Try.call35 rfl (fun w1 _ => by have h := esub_any da cb w1 hdal hcbl; rw [← hls] at h; exact h) ?_
        refine TrP.two rfl rfl ?_ ?_
        · refine W.alloc (cs := [0#64, 0#64, 0#64, 0#64, 0#64].map U64) Try.zeroValue41 rfl rfl fun g15 => ?_
          refine Tr.pOn (by first | exact List.Sublist.refl _ | exact List.sublist_cons_self _ _ | exact List.sublist_append_right _ _ | simp) ?_
          refine TrP.hard rfl (W.alloc (cs := [0#64, 0#64, 0#64, 0#64, 0#64].map U64) Try.zeroValue41 rfl rfl fun g16 => ?_)
          refine Tr.pOn (by first | exact List.Sublist.refl _ | exact List.sublist_cons_self _ _ | exact List.sublist_append_right _ _ | simp) ?_
          refine TrP.hard rfl (W.storeAll (vs := sm.map U64) (cs := [0#64, 0#64, 0#64, 0#64, 0#64].map U64) Try.sizeOf41 rfl rfl (by rw [List.length_map, hsml]) rfl (one64 _) (by repeat (first | exact Upd.head | apply Upd.tail)) ?_)
          refine Tr.pTail rfl ?_
          refine TrP.hard rfl (W.storeAll (vs := ls.map U64) (cs := [0#64, 0#64, 0#64, 0#64, 0#64].map U64) Try.sizeOf41 rfl rfl (by rw [List.length_map, hlsl]) rfl (one64 _) (by repeat (first | exact Upd.head | apply Upd.tail)) ?_)
          refine Tr.pTail rfl ?_
          refine TrP.done ?_
          refine Tr.thenN ?_
          refine Tr.seq ?_
          refine Tr.regionD [0, 0, 3, 0, 0, 0, 7, 103, 247, 511, 1023, 2047] [11] (.soft 0 (.soft 1 (.soft 2 (.soft 3 (.soft 4 (.soft 5 (.soft 6 (.soft 7 (.soft 8 (.soft 9 (.pure 10 (.hard 11 .done)))))))))))) mixed (by kernel_rfl) ?_
          refine TrP.soft rfl (V.loadN (cs := aa.map U64) Try.isAgg41 (by rw [List.length_map, haal]; exact Try.sizeOf41) rfl (V.cellsB (by repeat (first | exact List.Mem.head _ | apply List.Mem.tail)))) rfl ?_
          refine TrP.soft rfl (V.loadN (cs := bb.map U64) Try.isAgg41 (by rw [List.length_map, hbbl]; exact Try.sizeOf41) rfl (V.cellsB (by repeat (first | exact List.Mem.head _ | apply List.Mem.tail)))) rfl ?_
          refine TrP.call rfl (args2 rfl rfl) Try.call23 rfl (fun w1 _ => by have h := emul_any aa bb w1 haal hbbl; rw [← hx2] at h; exact h) ?_
          refine TrP.soft rfl (V.loadN (cs := e.map U64) Try.isAgg41 (by rw [List.length_map, hel]; exact Try.sizeOf41) rfl (V.cellsB (by repeat (first | exact List.Mem.head _ | apply List.Mem.tail)))) rfl ?_
          refine TrP.soft rfl (V.loadN (cs := aa.map U64) Try.isAgg41 (by rw [List.length_map, haal]; exact Try.sizeOf41) rfl (V.cellsB (by repeat (first | exact List.Mem.head _ | apply List.Mem.tail)))) rfl ?_
          refine TrP.soft rfl (V.loadN (cs := e.map U64) Try.isAgg41 (by rw [List.length_map, hel]; exact Try.sizeOf41) rfl (V.cellsB (by repeat (first | exact List.Mem.head _ | apply List.Mem.tail)))) rfl ?_
          refine TrP.call rfl (vs := [U32 121665#32]) (args1 rfl) Try.call20 rfl (fun w1 _ => small_any 121665#32 w1) ?_
          refine TrP.call rfl (args2 rfl rfl) Try.call23 rfl (fun w1 _ => by have h := emul_any e (smallL 121665#32) w1 hel hsl; rw [← ht1] at h; exact h) ?_
          refine TrP.call rfl (args2 rfl rfl) Try.call34 rfl (fun w1 _ => by have h := eadd_any aa t1 w1 haal ht1l; rw [← ht2] at h; exact h) ?_
          refine TrP.call rfl (args2 rfl rfl) Try.call23 rfl (fun w1 _ => by have h := emul_any e t2 w1 hel ht2l; rw [← hz2] at h; exact h) ?_
          refine TrP.pure rfl (fun _ => (V.buildS (vs := [(0, .agg (x2.map U64).toArray), (1, .agg (z2.map U64).toArray)]) (pl := #[(0, 5), (5, 5)]) (cs := (x2.map U64 ++ z2.map U64).toArray) Try.runUnderlying47 Try.zeroValue47 (fun w => by simp [Try.sizeOf41]) (fun a he => by simp [he.eval (x := .tmp 58) (v := .agg (x2.map U64).toArray) rfl, he.eval (x := .tmp 65) (v := .agg (z2.map U64).toArray) rfl]) (fill_two rfl rfl (by rw [List.length_map, hx2l]) (by rw [List.length_map, hz2l]) rfl))) rfl ?_
          refine TrP.hard rfl (W.storeAll (vs := (x2.map U64 ++ z2.map U64)) (cs := (x.map U64 ++ z.map U64)) Try.sizeOf47 rfl rfl (by rw [List.length_append, List.length_map, List.length_map, hx2l, hz2l]) (by rw [List.length_append, List.length_map, List.length_map, hx, hz]) (one2 _ _) (by repeat (first | exact Upd.head | apply Upd.tail)) ?_)
          refine Tr.pTail rfl ?_
          refine TrP.done ?_
          refine Tr.thenN ?_
          refine Tr.seq ?_
          refine Tr.regionD [0, 0, 0, 6, 0, 0, 62, 0, 254, 510, 511, 2047] [10, 11] (.soft 0 (.soft 1 (.soft 2 (.soft 3 (.soft 4 (.soft 5 (.soft 6 (.soft 7 (.soft 8 (.pure 9 (.hard 10 (.hard 11 .done)))))))))))) mixed (by kernel_rfl) ?_
          refine TrP.soft rfl (V.loadN (cs := (x2.map U64 ++ z2.map U64)) Try.isAgg47 (by rw [List.length_append, List.length_map, List.length_map, hx2l, hz2l]; exact Try.sizeOf47) rfl (V.cellsB (by repeat (first | exact List.Mem.head _ | apply List.Mem.tail)))) rfl ?_
          refine TrP.soft rfl (V.loadN (cs := sm.map U64) Try.isAgg41 (by rw [List.length_map, hsml]; exact Try.sizeOf41) rfl (V.cellsB (by repeat (first | exact List.Mem.head _ | apply List.Mem.tail)))) rfl ?_
          refine TrP.soft rfl (V.loadN (cs := sm.map U64) Try.isAgg41 (by rw [List.length_map, hsml]; exact Try.sizeOf41) rfl (V.cellsB (by repeat (first | exact List.Mem.head _ | apply List.Mem.tail)))) rfl ?_
          refine TrP.call rfl (args2 rfl rfl) Try.call23 rfl (fun w1 _ => by have h := emul_any sm sm w1 hsml hsml; rw [← hx3] at h; exact h) ?_
          refine TrP.soft rfl (V.loadN (cs := ls.map U64) Try.isAgg41 (by rw [List.length_map, hlsl]; exact Try.sizeOf41) rfl (V.cellsB (by repeat (first | exact List.Mem.head _ | apply List.Mem.tail)))) rfl ?_
          refine TrP.soft rfl (V.loadN (cs := ls.map U64) Try.isAgg41 (by rw [List.length_map, hlsl]; exact Try.sizeOf41) rfl (V.cellsB (by repeat (first | exact List.Mem.head _ | apply List.Mem.tail)))) rfl ?_
          refine TrP.call rfl (args2 rfl rfl) Try.call23 rfl (fun w1 _ => by have h := emul_any ls ls w1 hlsl hlsl; rw [← ht3] at h; exact h) ?_
          refine TrP.soft rfl (V.loadN (cs := u.map U64) Try.isAgg41 (by rw [List.length_map, hul]; exact Try.sizeOf41) rfl (V.cellsB (by repeat (first | exact List.Mem.head _ | apply List.Mem.tail)))) rfl ?_
          refine TrP.call rfl (args2 rfl rfl) Try.call23 rfl (fun w1 _ => by have h := emul_any t3 u w1 ht3l hul; rw [← hz3] at h; exact h) ?_
          refine TrP.pure rfl (fun _ => (V.buildS (vs := [(0, .agg (x3.map U64).toArray), (1, .agg (z3.map U64).toArray)]) (pl := #[(0, 5), (5, 5)]) (cs := (x3.map U64 ++ z3.map U64).toArray) Try.runUnderlying47 Try.zeroValue47 (fun w => by simp [Try.sizeOf41]) (fun a he => by simp [he.eval (x := .tmp 70) (v := .agg (x3.map U64).toArray) rfl, he.eval (x := .tmp 75) (v := .agg (z3.map U64).toArray) rfl]) (fill_two rfl rfl (by rw [List.length_map, hx3l]) (by rw [List.length_map, hz3l]) rfl))) rfl ?_
          refine TrP.hard rfl (W.storeAll (vs := (x2.map U64 ++ z2.map U64)) (cs := (List.replicate 10 0#64).map U64) Try.sizeOf47 rfl rfl (by rw [List.length_append, List.length_map, List.length_map, hx2l, hz2l]) (by simp) (one2 _ _) (by repeat (first | exact Upd.head | apply Upd.tail)) ?_)
          refine Tr.pTail rfl ?_
          refine TrP.hard rfl (W.storeAll (vs := (x3.map U64 ++ z3.map U64)) (cs := (List.replicate 10 0#64).map U64) Try.sizeOf47 rfl rfl (by rw [List.length_append, List.length_map, List.length_map, hx3l, hz3l]) (by simp) (one2 _ _) (by repeat (first | exact Upd.head | apply Upd.tail)) ?_)
          refine Tr.pTail rfl ?_
          refine TrP.done ?_
          refine Tr.thenN ?_
          refine Tr.ret ?_
          refine Tr.out2 rfl (Res.cellN (cs := (x2.map U64 ++ z2.map U64)) rfl Try.isAgg47 (by rw [List.length_append, List.length_map, List.length_map, hx2l, hz2l]; exact Try.sizeOf47) (by repeat (first | exact List.Mem.head _ | apply List.Mem.tail))) (Res.cellN (cs := (x3.map U64 ++ z3.map U64)) rfl Try.isAgg47 (by rw [List.length_append, List.length_map, List.length_map, hx3l, hz3l]; exact Try.sizeOf47) (by repeat (first | exact List.Mem.head _ | apply List.Mem.tail))) fun w hw => ?_
          exact ⟨by rw [hD, hA]; rfl, hw.sub (List.nil_sublist _)⟩
        · refine W.alloc (cs := [0#64, 0#64, 0#64, 0#64, 0#64].map U64) Try.zeroValue41 rfl rfl fun g16 => ?_
          refine Tr.pOn (by first | exact List.Sublist.refl _ | exact List.sublist_cons_self _ _ | exact List.sublist_append_right _ _ | simp) ?_
          refine TrP.hard rfl (W.alloc (cs := [0#64, 0#64, 0#64, 0#64, 0#64].map U64) Try.zeroValue41 rfl rfl fun g15 => ?_)
          refine Tr.pOn (by first | exact List.Sublist.refl _ | exact List.sublist_cons_self _ _ | exact List.sublist_append_right _ _ | simp) ?_
          refine TrP.hard rfl (W.storeAll (vs := sm.map U64) (cs := [0#64, 0#64, 0#64, 0#64, 0#64].map U64) Try.sizeOf41 rfl rfl (by rw [List.length_map, hsml]) rfl (one64 _) (by repeat (first | exact Upd.head | apply Upd.tail)) ?_)
          refine Tr.pTail rfl ?_
          refine TrP.hard rfl (W.storeAll (vs := ls.map U64) (cs := [0#64, 0#64, 0#64, 0#64, 0#64].map U64) Try.sizeOf41 rfl rfl (by rw [List.length_map, hlsl]) rfl (one64 _) (by repeat (first | exact Upd.head | apply Upd.tail)) ?_)
          refine Tr.pTail rfl ?_
          refine TrP.done ?_
          refine Tr.thenN ?_
          refine Tr.seq ?_
          refine Tr.regionD [0, 0, 3, 0, 0, 0, 7, 103, 247, 511, 1023, 2047] [11] (.soft 0 (.soft 1 (.soft 2 (.soft 3 (.soft 4 (.soft 5 (.soft 6 (.soft 7 (.soft 8 (.soft 9 (.pure 10 (.hard 11 .done)))))))))))) mixed (by kernel_rfl) ?_
          refine TrP.soft rfl (V.loadN (cs := aa.map U64) Try.isAgg41 (by rw [List.length_map, haal]; exact Try.sizeOf41) rfl (V.cellsB (by repeat (first | exact List.Mem.head _ | apply List.Mem.tail)))) rfl ?_
          refine TrP.soft rfl (V.loadN (cs := bb.map U64) Try.isAgg41 (by rw [List.length_map, hbbl]; exact Try.sizeOf41) rfl (V.cellsB (by repeat (first | exact List.Mem.head _ | apply List.Mem.tail)))) rfl ?_
          refine TrP.call rfl (args2 rfl rfl) Try.call23 rfl (fun w1 _ => by have h := emul_any aa bb w1 haal hbbl; rw [← hx2] at h; exact h) ?_
          refine TrP.soft rfl (V.loadN (cs := e.map U64) Try.isAgg41 (by rw [List.length_map, hel]; exact Try.sizeOf41) rfl (V.cellsB (by repeat (first | exact List.Mem.head _ | apply List.Mem.tail)))) rfl ?_
          refine TrP.soft rfl (V.loadN (cs := aa.map U64) Try.isAgg41 (by rw [List.length_map, haal]; exact Try.sizeOf41) rfl (V.cellsB (by repeat (first | exact List.Mem.head _ | apply List.Mem.tail)))) rfl ?_
          refine TrP.soft rfl (V.loadN (cs := e.map U64) Try.isAgg41 (by rw [List.length_map, hel]; exact Try.sizeOf41) rfl (V.cellsB (by repeat (first | exact List.Mem.head _ | apply List.Mem.tail)))) rfl ?_
          refine TrP.call rfl (vs := [U32 121665#32]) (args1 rfl) Try.call20 rfl (fun w1 _ => small_any 121665#32 w1) ?_
          refine TrP.call rfl (args2 rfl rfl) Try.call23 rfl (fun w1 _ => by have h := emul_any e (smallL 121665#32) w1 hel hsl; rw [← ht1] at h; exact h) ?_
          refine TrP.call rfl (args2 rfl rfl) Try.call34 rfl (fun w1 _ => by have h := eadd_any aa t1 w1 haal ht1l; rw [← ht2] at h; exact h) ?_
          refine TrP.call rfl (args2 rfl rfl) Try.call23 rfl (fun w1 _ => by have h := emul_any e t2 w1 hel ht2l; rw [← hz2] at h; exact h) ?_
          refine TrP.pure rfl (fun _ => (V.buildS (vs := [(0, .agg (x2.map U64).toArray), (1, .agg (z2.map U64).toArray)]) (pl := #[(0, 5), (5, 5)]) (cs := (x2.map U64 ++ z2.map U64).toArray) Try.runUnderlying47 Try.zeroValue47 (fun w => by simp [Try.sizeOf41]) (fun a he => by simp [he.eval (x := .tmp 58) (v := .agg (x2.map U64).toArray) rfl, he.eval (x := .tmp 65) (v := .agg (z2.map U64).toArray) rfl]) (fill_two rfl rfl (by rw [List.length_map, hx2l]) (by rw [List.length_map, hz2l]) rfl))) rfl ?_
          refine TrP.hard rfl (W.storeAll (vs := (x2.map U64 ++ z2.map U64)) (cs := (x.map U64 ++ z.map U64)) Try.sizeOf47 rfl rfl (by rw [List.length_append, List.length_map, List.length_map, hx2l, hz2l]) (by rw [List.length_append, List.length_map, List.length_map, hx, hz]) (one2 _ _) (by repeat (first | exact Upd.head | apply Upd.tail)) ?_)
          refine Tr.pTail rfl ?_
          refine TrP.done ?_
          refine Tr.thenN ?_
          refine Tr.seq ?_
          refine Tr.regionD [0, 0, 0, 6, 0, 0, 62, 0, 254, 510, 511, 2047] [10, 11] (.soft 0 (.soft 1 (.soft 2 (.soft 3 (.soft 4 (.soft 5 (.soft 6 (.soft 7 (.soft 8 (.pure 9 (.hard 10 (.hard 11 .done)))))))))))) mixed (by kernel_rfl) ?_
          refine TrP.soft rfl (V.loadN (cs := (x2.map U64 ++ z2.map U64)) Try.isAgg47 (by rw [List.length_append, List.length_map, List.length_map, hx2l, hz2l]; exact Try.sizeOf47) rfl (V.cellsB (by repeat (first | exact List.Mem.head _ | apply List.Mem.tail)))) rfl ?_
          refine TrP.soft rfl (V.loadN (cs := sm.map U64) Try.isAgg41 (by rw [List.length_map, hsml]; exact Try.sizeOf41) rfl (V.cellsB (by repeat (first | exact List.Mem.head _ | apply List.Mem.tail)))) rfl ?_
          refine TrP.soft rfl (V.loadN (cs := sm.map U64) Try.isAgg41 (by rw [List.length_map, hsml]; exact Try.sizeOf41) rfl (V.cellsB (by repeat (first | exact List.Mem.head _ | apply List.Mem.tail)))) rfl ?_
          refine TrP.call rfl (args2 rfl rfl) Try.call23 rfl (fun w1 _ => by have h := emul_any sm sm w1 hsml hsml; rw [← hx3] at h; exact h) ?_
          refine TrP.soft rfl (V.loadN (cs := ls.map U64) Try.isAgg41 (by rw [List.length_map, hlsl]; exact Try.sizeOf41) rfl (V.cellsB (by repeat (first | exact List.Mem.head _ | apply List.Mem.tail)))) rfl ?_
          refine TrP.soft rfl (V.loadN (cs := ls.map U64) Try.isAgg41 (by rw [List.length_map, hlsl]; exact Try.sizeOf41) rfl (V.cellsB (by repeat (first | exact List.Mem.head _ | apply List.Mem.tail)))) rfl ?_
          refine TrP.call rfl (args2 rfl rfl) Try.call23 rfl (fun w1 _ => by have h := emul_any ls ls w1 hlsl hlsl; rw [← ht3] at h; exact h) ?_
          refine TrP.soft rfl (V.loadN (cs := u.map U64) Try.isAgg41 (by rw [List.length_map, hul]; exact Try.sizeOf41) rfl (V.cellsB (by repeat (first | exact List.Mem.head _ | apply List.Mem.tail)))) rfl ?_
          refine TrP.call rfl (args2 rfl rfl) Try.call23 rfl (fun w1 _ => by have h := emul_any t3 u w1 ht3l hul; rw [← hz3] at h; exact h) ?_
          refine TrP.pure rfl (fun _ => (V.buildS (vs := [(0, .agg (x3.map U64).toArray), (1, .agg (z3.map U64).toArray)]) (pl := #[(0, 5), (5, 5)]) (cs := (x3.map U64 ++ z3.map U64).toArray) Try.runUnderlying47 Try.zeroValue47 (fun w => by simp [Try.sizeOf41]) (fun a he => by simp [he.eval (x := .tmp 70) (v := .agg (x3.map U64).toArray) rfl, he.eval (x := .tmp 75) (v := .agg (z3.map U64).toArray) rfl]) (fill_two rfl rfl (by rw [List.length_map, hx3l]) (by rw [List.length_map, hz3l]) rfl))) rfl ?_
          refine TrP.hard rfl (W.storeAll (vs := (x2.map U64 ++ z2.map U64)) (cs := (List.replicate 10 0#64).map U64) Try.sizeOf47 rfl rfl (by rw [List.length_append, List.length_map, List.length_map, hx2l, hz2l]) (by simp) (one2 _ _) (by repeat (first | exact Upd.head | apply Upd.tail)) ?_)
          refine Tr.pTail rfl ?_
          refine TrP.hard rfl (W.storeAll (vs := (x3.map U64 ++ z3.map U64)) (cs := (List.replicate 10 0#64).map U64) Try.sizeOf47 rfl rfl (by rw [List.length_append, List.length_map, List.length_map, hx3l, hz3l]) (by simp) (one2 _ _) (by repeat (first | exact Upd.head | apply Upd.tail)) ?_)
          refine Tr.pTail rfl ?_
          refine TrP.done ?_
          refine Tr.thenN ?_
          refine Tr.ret ?_
          refine Tr.out2 rfl (Res.cellN (cs := (x2.map U64 ++ z2.map U64)) rfl Try.isAgg47 (by rw [List.length_append, List.length_map, List.length_map, hx2l, hz2l]; exact Try.sizeOf47) (by repeat (first | exact List.Mem.head _ | apply List.Mem.tail))) (Res.cellN (cs := (x3.map U64 ++ z3.map U64)) rfl Try.isAgg47 (by rw [List.length_append, List.length_map, List.length_map, hx3l, hz3l]; exact Try.sizeOf47) (by repeat (first | exact List.Mem.head _ | apply List.Mem.tail))) fun w hw => ?_
          exact ⟨by rw [hD, hA]; rfl, hw.sub (List.nil_sublist _)⟩
      · refine W.alloc (cs := [0#64, 0#64, 0#64, 0#64, 0#64].map U64) Try.zeroValue41 rfl rfl fun g14 => ?_
        refine Tr.pOn (by first | exact List.Sublist.refl _ | exact List.sublist_cons_self _ _ | exact List.sublist_append_right _ _ | simp) ?_
        refine TrP.hard rfl (W.alloc (cs := [0#64, 0#64, 0#64, 0#64, 0#64].map U64) Try.zeroValue41 rfl rfl fun g13 => ?_)
        refine Tr.pOn (by first | exact List.Sublist.refl _ | exact List.sublist_cons_self _ _ | exact List.sublist_append_right _ _ | simp) ?_
        refine TrP.hard rfl (W.storeAll (vs := da.map U64) (cs := [0#64, 0#64, 0#64, 0#64, 0#64].map U64) Try.sizeOf41 rfl rfl (by rw [List.length_map, hdal]) rfl (one64 _) (by repeat (first | exact Upd.head | apply Upd.tail)) ?_)
        refine Tr.pTail rfl ?_
        refine TrP.hard rfl (W.storeAll (vs := cb.map U64) (cs := [0#64, 0#64, 0#64, 0#64, 0#64].map U64) Try.sizeOf41 rfl rfl (by rw [List.length_map, hcbl]) rfl (one64 _) (by repeat (first | exact Upd.head | apply Upd.tail)) ?_)
        refine Tr.pTail rfl ?_
        refine TrP.done ?_
        refine Tr.thenN ?_
        refine Tr.seq ?_
        refine Tr.regionD [0, 0, 3, 0, 0, 31, 0, 0, 255, 511] [8, 9] (.soft 0 (.soft 1 (.soft 2 (.soft 3 (.soft 4 (.soft 5 (.two 6 (.hard 7 (.hard 8 (.hard 9 .done))) 7 (.hard 6 (.hard 8 (.hard 9 .done)))))))))) mixed (by kernel_rfl) ?_
        refine TrP.soft rfl (V.loadN (cs := da.map U64) Try.isAgg41 (by rw [List.length_map, hdal]; exact Try.sizeOf41) rfl (V.cellsB (by repeat (first | exact List.Mem.head _ | apply List.Mem.tail)))) rfl ?_
        refine TrP.soft rfl (V.loadN (cs := cb.map U64) Try.isAgg41 (by rw [List.length_map, hcbl]; exact Try.sizeOf41) rfl (V.cellsB (by repeat (first | exact List.Mem.head _ | apply List.Mem.tail)))) rfl ?_
        refine TrP.call rfl (args2 rfl rfl) Try.call34 rfl (fun w1 _ => by have h := eadd_any da cb w1 hdal hcbl; rw [← hsm] at h; exact h) ?_
        refine TrP.soft rfl (V.loadN (cs := da.map U64) Try.isAgg41 (by rw [List.length_map, hdal]; exact Try.sizeOf41) rfl (V.cellsB (by repeat (first | exact List.Mem.head _ | apply List.Mem.tail)))) rfl ?_
        refine TrP.soft rfl (V.loadN (cs := cb.map U64) Try.isAgg41 (by rw [List.length_map, hcbl]; exact Try.sizeOf41) rfl (V.cellsB (by repeat (first | exact List.Mem.head _ | apply List.Mem.tail)))) rfl ?_
        refine TrP.call rfl (args2 rfl rfl) Try.call35 rfl (fun w1 _ => by have h := esub_any da cb w1 hdal hcbl; rw [← hls] at h; exact h) ?_
        refine TrP.two rfl rfl ?_ ?_
        · refine W.alloc (cs := [0#64, 0#64, 0#64, 0#64, 0#64].map U64) Try.zeroValue41 rfl rfl fun g15 => ?_
          refine Tr.pOn (by first | exact List.Sublist.refl _ | exact List.sublist_cons_self _ _ | exact List.sublist_append_right _ _ | simp) ?_
          refine TrP.hard rfl (W.alloc (cs := [0#64, 0#64, 0#64, 0#64, 0#64].map U64) Try.zeroValue41 rfl rfl fun g16 => ?_)
          refine Tr.pOn (by first | exact List.Sublist.refl _ | exact List.sublist_cons_self _ _ | exact List.sublist_append_right _ _ | simp) ?_
          refine TrP.hard rfl (W.storeAll (vs := sm.map U64) (cs := [0#64, 0#64, 0#64, 0#64, 0#64].map U64) Try.sizeOf41 rfl rfl (by rw [List.length_map, hsml]) rfl (one64 _) (by repeat (first | exact Upd.head | apply Upd.tail)) ?_)
          refine Tr.pTail rfl ?_
          refine TrP.hard rfl (W.storeAll (vs := ls.map U64) (cs := [0#64, 0#64, 0#64, 0#64, 0#64].map U64) Try.sizeOf41 rfl rfl (by rw [List.length_map, hlsl]) rfl (one64 _) (by repeat (first | exact Upd.head | apply Upd.tail)) ?_)
          refine Tr.pTail rfl ?_
          refine TrP.done ?_
          refine Tr.thenN ?_
          refine Tr.seq ?_
          refine Tr.regionD [0, 0, 3, 0, 0, 0, 7, 103, 247, 511, 1023, 2047] [11] (.soft 0 (.soft 1 (.soft 2 (.soft 3 (.soft 4 (.soft 5 (.soft 6 (.soft 7 (.soft 8 (.soft 9 (.pure 10 (.hard 11 .done)))))))))))) mixed (by kernel_rfl) ?_
          refine TrP.soft rfl (V.loadN (cs := aa.map U64) Try.isAgg41 (by rw [List.length_map, haal]; exact Try.sizeOf41) rfl (V.cellsB (by repeat (first | exact List.Mem.head _ | apply List.Mem.tail)))) rfl ?_
          refine TrP.soft rfl (V.loadN (cs := bb.map U64) Try.isAgg41 (by rw [List.length_map, hbbl]; exact Try.sizeOf41) rfl (V.cellsB (by repeat (first | exact List.Mem.head _ | apply List.Mem.tail)))) rfl ?_
          refine TrP.call rfl (args2 rfl rfl) Try.call23 rfl (fun w1 _ => by have h := emul_any aa bb w1 haal hbbl; rw [← hx2] at h; exact h) ?_
          refine TrP.soft rfl (V.loadN (cs := e.map U64) Try.isAgg41 (by rw [List.length_map, hel]; exact Try.sizeOf41) rfl (V.cellsB (by repeat (first | exact List.Mem.head _ | apply List.Mem.tail)))) rfl ?_
          refine TrP.soft rfl (V.loadN (cs := aa.map U64) Try.isAgg41 (by rw [List.length_map, haal]; exact Try.sizeOf41) rfl (V.cellsB (by repeat (first | exact List.Mem.head _ | apply List.Mem.tail)))) rfl ?_
          refine TrP.soft rfl (V.loadN (cs := e.map U64) Try.isAgg41 (by rw [List.length_map, hel]; exact Try.sizeOf41) rfl (V.cellsB (by repeat (first | exact List.Mem.head _ | apply List.Mem.tail)))) rfl ?_
          refine TrP.call rfl (vs := [U32 121665#32]) (args1 rfl) Try.call20 rfl (fun w1 _ => small_any 121665#32 w1) ?_
          refine TrP.call rfl (args2 rfl rfl) Try.call23 rfl (fun w1 _ => by have h := emul_any e (smallL 121665#32) w1 hel hsl; rw [← ht1] at h; exact h) ?_
          refine TrP.call rfl (args2 rfl rfl) Try.call34 rfl (fun w1 _ => by have h := eadd_any aa t1 w1 haal ht1l; rw [← ht2] at h; exact h) ?_
          refine TrP.call rfl (args2 rfl rfl) Try.call23 rfl (fun w1 _ => by have h := emul_any e t2 w1 hel ht2l; rw [← hz2] at h; exact h) ?_
          refine TrP.pure rfl (fun _ => (V.buildS (vs := [(0, .agg (x2.map U64).toArray), (1, .agg (z2.map U64).toArray)]) (pl := #[(0, 5), (5, 5)]) (cs := (x2.map U64 ++ z2.map U64).toArray) Try.runUnderlying47 Try.zeroValue47 (fun w => by simp [Try.sizeOf41]) (fun a he => by simp [he.eval (x := .tmp 58) (v := .agg (x2.map U64).toArray) rfl, he.eval (x := .tmp 65) (v := .agg (z2.map U64).toArray) rfl]) (fill_two rfl rfl (by rw [List.length_map, hx2l]) (by rw [List.length_map, hz2l]) rfl))) rfl ?_
          refine TrP.hard rfl (W.storeAll (vs := (x2.map U64 ++ z2.map U64)) (cs := (x.map U64 ++ z.map U64)) Try.sizeOf47 rfl rfl (by rw [List.length_append, List.length_map, List.length_map, hx2l, hz2l]) (by rw [List.length_append, List.length_map, List.length_map, hx, hz]) (one2 _ _) (by repeat (first | exact Upd.head | apply Upd.tail)) ?_)
          refine Tr.pTail rfl ?_
          refine TrP.done ?_
          refine Tr.thenN ?_
          refine Tr.seq ?_
          refine Tr.regionD [0, 0, 0, 6, 0, 0, 62, 0, 254, 510, 511, 2047] [10, 11] (.soft 0 (.soft 1 (.soft 2 (.soft 3 (.soft 4 (.soft 5 (.soft 6 (.soft 7 (.soft 8 (.pure 9 (.hard 10 (.hard 11 .done)))))))))))) mixed (by kernel_rfl) ?_
          refine TrP.soft rfl (V.loadN (cs := (x2.map U64 ++ z2.map U64)) Try.isAgg47 (by rw [List.length_append, List.length_map, List.length_map, hx2l, hz2l]; exact Try.sizeOf47) rfl (V.cellsB (by repeat (first | exact List.Mem.head _ | apply List.Mem.tail)))) rfl ?_
          refine TrP.soft rfl (V.loadN (cs := sm.map U64) Try.isAgg41 (by rw [List.length_map, hsml]; exact Try.sizeOf41) rfl (V.cellsB (by repeat (first | exact List.Mem.head _ | apply List.Mem.tail)))) rfl ?_
          refine TrP.soft rfl (V.loadN (cs := sm.map U64) Try.isAgg41 (by rw [List.length_map, hsml]; exact Try.sizeOf41) rfl (V.cellsB (by repeat (first | exact List.Mem.head _ | apply List.Mem.tail)))) rfl ?_
          refine TrP.call rfl (args2 rfl rfl) Try.call23 rfl (fun w1 _ => by have h := emul_any sm sm w1 hsml hsml; rw [← hx3] at h; exact h) ?_
          refine TrP.soft rfl (V.loadN (cs := ls.map U64) Try.isAgg41 (by rw [List.length_map, hlsl]; exact Try.sizeOf41) rfl (V.cellsB (by repeat (first | exact List.Mem.head _ | apply List.Mem.tail)))) rfl ?_
          refine TrP.soft rfl (V.loadN (cs := ls.map U64) Try.isAgg41 (by rw [List.length_map, hlsl]; exact Try.sizeOf41) rfl (V.cellsB (by repeat (first | exact List.Mem.head _ | apply List.Mem.tail)))) rfl ?_
          refine TrP.call rfl (args2 rfl rfl) Try.call23 rfl (fun w1 _ => by have h := emul_any ls ls w1 hlsl hlsl; rw [← ht3] at h; exact h) ?_
          refine TrP.soft rfl (V.loadN (cs := u.map U64) Try.isAgg41 (by rw [List.length_map, hul]; exact Try.sizeOf41) rfl (V.cellsB (by repeat (first | exact List.Mem.head _ | apply List.Mem.tail)))) rfl ?_
          refine TrP.call rfl (args2 rfl rfl) Try.call23 rfl (fun w1 _ => by have h := emul_any t3 u w1 ht3l hul; rw [← hz3] at h; exact h) ?_
          refine TrP.pure rfl (fun _ => (V.buildS (vs := [(0, .agg (x3.map U64).toArray), (1, .agg (z3.map U64).toArray)]) (pl := #[(0, 5), (5, 5)]) (cs := (x3.map U64 ++ z3.map U64).toArray) Try.runUnderlying47 Try.zeroValue47 (fun w => by simp [Try.sizeOf41]) (fun a he => by simp [he.eval (x := .tmp 70) (v := .agg (x3.map U64).toArray) rfl, he.eval (x := .tmp 75) (v := .agg (z3.map U64).toArray) rfl]) (fill_two rfl rfl (by rw [List.length_map, hx3l]) (by rw [List.length_map, hz3l]) rfl))) rfl ?_
          refine TrP.hard rfl (W.storeAll (vs := (x2.map U64 ++ z2.map U64)) (cs := (List.replicate 10 0#64).map U64) Try.sizeOf47 rfl rfl (by rw [List.length_append, List.length_map, List.length_map, hx2l, hz2l]) (by simp) (one2 _ _) (by repeat (first | exact Upd.head | apply Upd.tail)) ?_)
          refine Tr.pTail rfl ?_
          refine TrP.hard rfl (W.storeAll (vs := (x3.map U64 ++ z3.map U64)) (cs := (List.replicate 10 0#64).map U64) Try.sizeOf47 rfl rfl (by rw [List.length_append, List.length_map, List.length_map, hx3l, hz3l]) (by simp) (one2 _ _) (by repeat (first | exact Upd.head | apply Upd.tail)) ?_)
          refine Tr.pTail rfl ?_
          refine TrP.done ?_
          refine Tr.thenN ?_
          refine Tr.ret ?_
          refine Tr.out2 rfl (Res.cellN (cs := (x2.map U64 ++ z2.map U64)) rfl Try.isAgg47 (by rw [List.length_append, List.length_map, List.length_map, hx2l, hz2l]; exact Try.sizeOf47) (by repeat (first | exact List.Mem.head _ | apply List.Mem.tail))) (Res.cellN (cs := (x3.map U64 ++ z3.map U64)) rfl Try.isAgg47 (by rw [List.length_append, List.length_map, List.length_map, hx3l, hz3l]; exact Try.sizeOf47) (by repeat (first | exact List.Mem.head _ | apply List.Mem.tail))) fun w hw => ?_
          exact ⟨by rw [hD, hA]; rfl, hw.sub (List.nil_sublist _)⟩
        · refine W.alloc (cs := [0#64, 0#64, 0#64, 0#64, 0#64].map U64) Try.zeroValue41 rfl rfl fun g16 => ?_
          refine Tr.pOn (by first | exact List.Sublist.refl _ | exact List.sublist_cons_self _ _ | exact List.sublist_append_right _ _ | simp) ?_
          refine TrP.hard rfl (W.alloc (cs := [0#64, 0#64, 0#64, 0#64, 0#64].map U64) Try.zeroValue41 rfl rfl fun g15 => ?_)
          refine Tr.pOn (by first | exact List.Sublist.refl _ | exact List.sublist_cons_self _ _ | exact List.sublist_append_right _ _ | simp) ?_
          refine TrP.hard rfl (W.storeAll (vs := sm.map U64) (cs := [0#64, 0#64, 0#64, 0#64, 0#64].map U64) Try.sizeOf41 rfl rfl (by rw [List.length_map, hsml]) rfl (one64 _) (by repeat (first | exact Upd.head | apply Upd.tail)) ?_)
          refine Tr.pTail rfl ?_
          refine TrP.hard rfl (W.storeAll (vs := ls.map U64) (cs := [0#64, 0#64, 0#64, 0#64, 0#64].map U64) Try.sizeOf41 rfl rfl (by rw [List.length_map, hlsl]) rfl (one64 _) (by repeat (first | exact Upd.head | apply Upd.tail)) ?_)
          refine Tr.pTail rfl ?_
          refine TrP.done ?_
          refine Tr.thenN ?_
          refine Tr.seq ?_
          refine Tr.regionD [0, 0, 3, 0, 0, 0, 7, 103, 247, 511, 1023, 2047] [11] (.soft 0 (.soft 1 (.soft 2 (.soft 3 (.soft 4 (.soft 5 (.soft 6 (.soft 7 (.soft 8 (.soft 9 (.pure 10 (.hard 11 .done)))))))))))) mixed (by kernel_rfl) ?_
          refine TrP.soft rfl (V.loadN (cs := aa.map U64) Try.isAgg41 (by rw [List.length_map, haal]; exact Try.sizeOf41) rfl (V.cellsB (by repeat (first | exact List.Mem.head _ | apply List.Mem.tail)))) rfl ?_
          refine TrP.soft rfl (V.loadN (cs := bb.map U64) Try.isAgg41 (by rw [List.length_map, hbbl]; exact Try.sizeOf41) rfl (V.cellsB (by repeat (first | exact List.Mem.head _ | apply List.Mem.tail)))) rfl ?_
          refine TrP.call rfl (args2 rfl rfl) Try.call23 rfl (fun w1 _ => by have h := emul_any aa bb w1 haal hbbl; rw [← hx2] at h; exact h) ?_
          refine TrP.soft rfl (V.loadN (cs := e.map U64) Try.isAgg41 (by rw [List.length_map, hel]; exact Try.sizeOf41) rfl (V.cellsB (by repeat (first | exact List.Mem.head _ | apply List.Mem.tail)))) rfl ?_
          refine TrP.soft rfl (V.loadN (cs := aa.map U64) Try.isAgg41 (by rw [List.length_map, haal]; exact Try.sizeOf41) rfl (V.cellsB (by repeat (first | exact List.Mem.head _ | apply List.Mem.tail)))) rfl ?_
          refine TrP.soft rfl (V.loadN (cs := e.map U64) Try.isAgg41 (by rw [List.length_map, hel]; exact Try.sizeOf41) rfl (V.cellsB (by repeat (first | exact List.Mem.head _ | apply List.Mem.tail)))) rfl ?_
          refine TrP.call rfl (vs := [U32 121665#32]) (args1 rfl) Try.call20 rfl (fun w1 _ => small_any 121665#32 w1) ?_
          refine TrP.call rfl (args2 rfl rfl) Try.call23 rfl (fun w1 _ => by have h := emul_any e (smallL 121665#32) w1 hel hsl; rw [← ht1] at h; exact h) ?_
          refine TrP.call rfl (args2 rfl rfl) Try.call34 rfl (fun w1 _ => by have h := eadd_any aa t1 w1 haal ht1l; rw [← ht2] at h; exact h) ?_
          refine TrP.call rfl (args2 rfl rfl) Try.call23 rfl (fun w1 _ => by have h := emul_any e t2 w1 hel ht2l; rw [← hz2] at h; exact h) ?_
          refine TrP.pure rfl (fun _ => (V.buildS (vs := [(0, .agg (x2.map U64).toArray), (1, .agg (z2.map U64).toArray)]) (pl := #[(0, 5), (5, 5)]) (cs := (x2.map U64 ++ z2.map U64).toArray) Try.runUnderlying47 Try.zeroValue47 (fun w => by simp [Try.sizeOf41]) (fun a he => by simp [he.eval (x := .tmp 58) (v := .agg (x2.map U64).toArray) rfl, he.eval (x := .tmp 65) (v := .agg (z2.map U64).toArray) rfl]) (fill_two rfl rfl (by rw [List.length_map, hx2l]) (by rw [List.length_map, hz2l]) rfl))) rfl ?_
          refine TrP.hard rfl (W.storeAll (vs := (x2.map U64 ++ z2.map U64)) (cs := (x.map U64 ++ z.map U64)) Try.sizeOf47 rfl rfl (by rw [List.length_append, List.length_map, List.length_map, hx2l, hz2l]) (by rw [List.length_append, List.length_map, List.length_map, hx, hz]) (one2 _ _) (by repeat (first | exact Upd.head | apply Upd.tail)) ?_)
          refine Tr.pTail rfl ?_
          refine TrP.done ?_
          refine Tr.thenN ?_
          refine Tr.seq ?_
          refine Tr.regionD [0, 0, 0, 6, 0, 0, 62, 0, 254, 510, 511, 2047] [10, 11] (.soft 0 (.soft 1 (.soft 2 (.soft 3 (.soft 4 (.soft 5 (.soft 6 (.soft 7 (.soft 8 (.pure 9 (.hard 10 (.hard 11 .done)))))))))))) mixed (by kernel_rfl) ?_
          refine TrP.soft rfl (V.loadN (cs := (x2.map U64 ++ z2.map U64)) Try.isAgg47 (by rw [List.length_append, List.length_map, List.length_map, hx2l, hz2l]; exact Try.sizeOf47) rfl (V.cellsB (by repeat (first | exact List.Mem.head _ | apply List.Mem.tail)))) rfl ?_
          refine TrP.soft rfl (V.loadN (cs := sm.map U64) Try.isAgg41 (by rw [List.length_map, hsml]; exact Try.sizeOf41) rfl (V.cellsB (by repeat (first | exact List.Mem.head _ | apply List.Mem.tail)))) rfl ?_
          refine TrP.soft rfl (V.loadN (cs := sm.map U64) Try.isAgg41 (by rw [List.length_map, hsml]; exact Try.sizeOf41) rfl (V.cellsB (by repeat (first | exact List.Mem.head _ | apply List.Mem.tail)))) rfl ?_
          refine TrP.call rfl (args2 rfl rfl) Try.call23 rfl (fun w1 _ => by have h := emul_any sm sm w1 hsml hsml; rw [← hx3] at h; exact h) ?_
          refine TrP.soft rfl (V.loadN (cs := ls.map U64) Try.isAgg41 (by rw [List.length_map, hlsl]; exact Try.sizeOf41) rfl (V.cellsB (by repeat (first | exact List.Mem.head _ | apply List.Mem.tail)))) rfl ?_
          refine TrP.soft rfl (V.loadN (cs := ls.map U64) Try.isAgg41 (by rw [List.length_map, hlsl]; exact Try.sizeOf41) rfl (V.cellsB (by repeat (first | exact List.Mem.head _ | apply List.Mem.tail)))) rfl ?_
          refine TrP.call rfl (args2 rfl rfl) Try.call23 rfl (fun w1 _ => by have h := emul_any ls ls w1 hlsl hlsl; rw [← ht3] at h; exact h) ?_
          refine TrP.soft rfl (V.loadN (cs := u.map U64) Try.isAgg41 (by rw [List.length_map, hul]; exact Try.sizeOf41) rfl (V.cellsB (by repeat (first | exact List.Mem.head _ | apply List.Mem.tail)))) rfl ?_
          refine TrP.call rfl (args2 rfl rfl) Try.call23 rfl (fun w1 _ => by have h := emul_any t3 u w1 ht3l hul; rw [← hz3] at h; exact h) ?_
          refine TrP.pure rfl (fun _ => (V.buildS (vs := [(0, .agg (x3.map U64).toArray), (1, .agg (z3.map U64).toArray)]) (pl := #[(0, 5), (5, 5)]) (cs := (x3.map U64 ++ z3.map U64).toArray) Try.runUnderlying47 Try.zeroValue47 (fun w => by simp [Try.sizeOf41]) (fun a he => by simp [he.eval (x := .tmp 70) (v := .agg (x3.map U64).toArray) rfl, he.eval (x := .tmp 75) (v := .agg (z3.map U64).toArray) rfl]) (fill_two rfl rfl (by rw [List.length_map, hx3l]) (by rw [List.length_map, hz3l]) rfl))) rfl ?_
          refine TrP.hard rfl (W.storeAll (vs := (x2.map U64 ++ z2.map U64)) (cs := (List.replicate 10 0#64).map U64) Try.sizeOf47 rfl rfl (by rw [List.length_append, List.length_map, List.length_map, hx2l, hz2l]) (by simp) (one2 _ _) (by repeat (first | exact Upd.head | apply Upd.tail)) ?_)
          refine Tr.pTail rfl ?_
          refine TrP.hard rfl (W.storeAll (vs := (x3.map U64 ++ z3.map U64)) (cs := (List.replicate 10 0#64).map U64) Try.sizeOf47 rfl rfl (by rw [List.length_append, List.length_map, List.length_map, hx3l, hz3l]) (by simp) (one2 _ _) (by repeat (first | exact Upd.head | apply Upd.tail)) ?_)
          refine Tr.pTail rfl ?_
          refine TrP.done ?_
          refine Tr.thenN ?_
          refine Tr.ret ?_
          refine Tr.out2 rfl (Res.cellN (cs := (x2.map U64 ++ z2.map U64)) rfl Try.isAgg47 (by rw [List.length_append, List.length_map, List.length_map, hx2l, hz2l]; exact Try.sizeOf47) (by repeat (first | exact List.Mem.head _ | apply List.Mem.tail))) (Res.cellN (cs := (x3.map U64 ++ z3.map U64)) rfl Try.isAgg47 (by rw [List.length_append, List.length_map, List.length_map, hx3l, hz3l]; exact Try.sizeOf47) (by repeat (first | exact List.Mem.head _ | apply List.Mem.tail))) fun w hw => ?_
          exact ⟨by rw [hD, hA]; rfl, hw.sub (List.nil_sublist _)⟩
    · refine W.alloc (cs := [0#64, 0#64, 0#64, 0#64, 0#64].map U64) Try.zeroValue41 rfl rfl fun g11 => ?_
      refine Tr.pOn (by first | exact List.Sublist.refl _ | exact List.sublist_cons_self _ _ | exact List.sublist_append_right _ _ | simp) ?_
      refine TrP.hard rfl (W.alloc (cs := [0#64, 0#64, 0#64, 0#64, 0#64].map U64) Try.zeroValue41 rfl rfl fun g10 => ?_)
      refine Tr.pOn (by first | exact List.Sublist.refl _ | exact List.sublist_cons_self _ _ | exact List.sublist_append_right _ _ | simp) ?_
      refine TrP.hard rfl (W.storeAll (vs := aa.map U64) (cs := [0#64, 0#64, 0#64, 0#64, 0#64].map U64) Try.sizeOf41 rfl rfl (by rw [List.length_map, haal]) rfl (one64 _) (by repeat (first | exact Upd.head | apply Upd.tail)) ?_)
      refine Tr.pTail rfl ?_
      refine TrP.hard rfl (W.storeAll (vs := bb.map U64) (cs := [0#64, 0#64, 0#64, 0#64, 0#64].map U64) Try.sizeOf41 rfl rfl (by rw [List.length_map, hbbl]) rfl (one64 _) (by repeat (first | exact Upd.head | apply Upd.tail)) ?_)
      refine Tr.pTail rfl ?_
      refine TrP.done ?_
      refine Tr.thenN ?_
      refine Tr.seq ?_
      refine Tr.region ?_
      refine Tr.val (V.loadN (cs := aa.map U64) Try.isAgg41 (by rw [List.length_map, haal]; exact Try.sizeOf41) rfl (V.cellsB (by repeat (first | exact List.Mem.head _ | apply List.Mem.tail)))) rfl ?_
      refine Tr.val (V.loadN (cs := bb.map U64) Try.isAgg41 (by rw [List.length_map, hbbl]; exact Try.sizeOf41) rfl (V.cellsB (by repeat (first | exact List.Mem.head _ | apply List.Mem.tail)))) rfl ?_
      refine Tr.op (W.call1 (args2 rfl rfl) Try.call35 rfl (fun w1 _ => by have h := esub_any aa bb w1 haal hbbl; rw [← he] at h; exact h) ?_)
      refine Tr.op (W.alloc (cs := [0#64, 0#64, 0#64, 0#64, 0#64].map U64) Try.zeroValue41 rfl rfl fun g12 => ?_)
      refine Tr.op (W.storeAll (vs := e.map U64) (cs := [0#64, 0#64, 0#64, 0#64, 0#64].map U64) Try.sizeOf41 rfl rfl (by rw [List.length_map, hel]) rfl (one64 _) (by repeat (first | exact Upd.head | apply Upd.tail)) ?_)
      refine Tr.lNil ?_
      refine Tr.thenN ?_
      refine Tr.seq ?_
      refine Tr.regionD [0, 1, 0, 4, 15, 0, 63, 0, 128, 0, 512, 2047, 0, 8191, 0, 0, 65535, 131071] [16, 17] (.pure 0 (.soft 1 (.pure 2 (.soft 3 (.soft 4 (.soft 5 (.soft 6 (.pure 7 (.soft 8 (.pure 9 (.soft 10 (.soft 11 (.soft 12 (.soft 13 (.two 14 (.hard 15 (.hard 16 (.hard 17 .done))) 15 (.hard 14 (.hard 16 (.hard 17 .done)))))))))))))))))) mixed (by kernel_rfl) ?_
      refine TrP.pure rfl (fun _ => V.fieldS (o' := 0) Try.runUnderlying47 rfl rfl Try.sizeOf41 (by omega) rfl) rfl ?_
      refine TrP.soft rfl (V.loadN (cs := qx.map U64) Try.isAgg41 (by rw [List.length_map, hqx]; exact Try.sizeOf41) rfl (V.cellsO (pre := []) (post := qz.map U64) (by repeat (first | exact List.Mem.head _ | apply List.Mem.tail)) rfl rfl)) rfl ?_
      refine TrP.pure rfl (fun _ => V.fieldS (o' := 5) Try.runUnderlying47 rfl rfl Try.sizeOf41 (by omega) rfl) rfl ?_
      refine TrP.soft rfl (V.loadN (cs := qz.map U64) Try.isAgg41 (by rw [List.length_map, hqz]; exact Try.sizeOf41) rfl (V.cellsO (pre := qx.map U64) (post := []) (by repeat (first | exact List.Mem.head _ | apply List.Mem.tail)) (List.append_nil _).symm (by rw [List.length_map, hqx]))) rfl ?_
      refine TrP.call rfl (args2 rfl rfl) Try.call35 rfl (fun w1 _ => by have h := esub_any qx qz w1 hqx hqz; rw [← hd1] at h; exact h) ?_
      refine TrP.soft rfl (V.loadN (cs := a.map U64) Try.isAgg41 (by rw [List.length_map, hal]; exact Try.sizeOf41) rfl (V.cellsB (by repeat (first | exact List.Mem.head _ | apply List.Mem.tail)))) rfl ?_
      refine TrP.call rfl (args2 rfl rfl) Try.call23 rfl (fun w1 _ => by have h := emul_any d1 a w1 hd1l hal; rw [← hda] at h; exact h) ?_
      refine TrP.pure rfl (fun _ => V.fieldS (o' := 0) Try.runUnderlying47 rfl rfl Try.sizeOf41 (by omega) rfl) rfl ?_
      refine TrP.soft rfl (V.loadN (cs := qx.map U64) Try.isAgg41 (by rw [List.length_map, hqx]; exact Try.sizeOf41) rfl (V.cellsO (pre := []) (post := qz.map U64) (by repeat (first | exact List.Mem.head _ | apply List.Mem.tail)) rfl rfl)) rfl ?_
      refine TrP.pure rfl (fun _ => V.fieldS (o' := 5) Try.runUnderlying47 rfl rfl Try.sizeOf41 (by omega) rfl) rfl ?_
      refine TrP.soft rfl (V.loadN (cs := qz.map U64) Try.isAgg41 (by rw [List.length_map, hqz]; exact Try.sizeOf41) rfl (V.cellsO (pre := qx.map U64) (post := []) (by repeat (first | exact List.Mem.head _ | apply List.Mem.tail)) (List.append_nil _).symm (by rw [List.length_map, hqx]))) rfl ?_
      refine TrP.call rfl (args2 rfl rfl) Try.call34 rfl (fun w1 _ => by have h := eadd_any qx qz w1 hqx hqz; rw [← hs1] at h; exact h) ?_
      refine TrP.soft rfl (V.loadN (cs := b.map U64) Try.isAgg41 (by rw [List.length_map, hbl]; exact Try.sizeOf41) rfl (V.cellsB (by repeat (first | exact List.Mem.head _ | apply List.Mem.tail)))) rfl ?_
      refine TrP.call rfl (args2 rfl rfl) Try.call23 rfl (fun w1 _ => by have h := emul_any s1 b w1 hs1l hbl; rw [← hcb] at h; exact h) ?_
      refine TrP.two rfl rfl ?_ ?_
      · refine W.alloc (cs := [0#64, 0#64, 0#64, 0#64, 0#64].map U64) Try.zeroValue41 rfl rfl fun g13 => ?_
        refine Tr.pOn (by first | exact List.Sublist.refl _ | exact List.sublist_cons_self _ _ | exact List.sublist_append_right _ _ | simp) ?_
        refine TrP.hard rfl (W.alloc (cs := [0#64, 0#64, 0#64, 0#64, 0#64].map U64) Try.zeroValue41 rfl rfl fun g14 => ?_)
        refine Tr.pOn (by first | exact List.Sublist.refl _ | exact List.sublist_cons_self _ _ | exact List.sublist_append_right _ _ | simp) ?_
        refine TrP.hard rfl (W.storeAll (vs := da.map U64) (cs := [0#64, 0#64, 0#64, 0#64, 0#64].map U64) Try.sizeOf41 rfl rfl (by rw [List.length_map, hdal]) rfl (one64 _) (by repeat (first | exact Upd.head | apply Upd.tail)) ?_)
        refine Tr.pTail rfl ?_
        refine TrP.hard rfl (W.storeAll (vs := cb.map U64) (cs := [0#64, 0#64, 0#64, 0#64, 0#64].map U64) Try.sizeOf41 rfl rfl (by rw [List.length_map, hcbl]) rfl (one64 _) (by repeat (first | exact Upd.head | apply Upd.tail)) ?_)
        refine Tr.pTail rfl ?_
        refine TrP.done ?_
        refine Tr.thenN ?_
        refine Tr.seq ?_
        refine Tr.regionD [0, 0, 3, 0, 0, 31, 0, 0, 255, 511] [8, 9] (.soft 0 (.soft 1 (.soft 2 (.soft 3 (.soft 4 (.soft 5 (.two 6 (.hard 7 (.hard 8 (.hard 9 .done))) 7 (.hard 6 (.hard 8 (.hard 9 .done)))))))))) mixed (by kernel_rfl) ?_
        refine TrP.soft rfl (V.loadN (cs := da.map U64) Try.isAgg41 (by rw [List.length_map, hdal]; exact Try.sizeOf41) rfl (V.cellsB (by repeat (first | exact List.Mem.head _ | apply List.Mem.tail)))) rfl ?_
        refine TrP.soft rfl (V.loadN (cs := cb.map U64) Try.isAgg41 (by rw [List.length_map, hcbl]; exact Try.sizeOf41) rfl (V.cellsB (by repeat (first | exact List.Mem.head _ | apply List.Mem.tail)))) rfl ?_
        refine TrP.call rfl (args2 rfl rfl) Try.call34 rfl (fun w1 _ => by have h := eadd_any da cb w1 hdal hcbl; rw [← hsm] at h; exact h) ?_
        refine TrP.soft rfl (V.loadN (cs := da.map U64) Try.isAgg41 (by rw [List.length_map, hdal]; exact Try.sizeOf41) rfl (V.cellsB (by repeat (first | exact List.Mem.head _ | apply List.Mem.tail)))) rfl ?_
        refine TrP.soft rfl (V.loadN (cs := cb.map U64) Try.isAgg41 (by rw [List.length_map, hcbl]; exact Try.sizeOf41) rfl (V.cellsB (by repeat (first | exact List.Mem.head _ | apply List.Mem.tail)))) rfl ?_
        refine TrP.call rfl (args2 rfl rfl) Try.call35 rfl (fun w1 _ => by have h := esub_any da cb w1 hdal hcbl; rw [← hls] at h; exact h) ?_
        refine TrP.two rfl rfl ?_ ?_
        · refine W.alloc (cs := [0#64, 0#64, 0#64, 0#64, 0#64].map U64) Try.zeroValue41 rfl rfl fun g15 => ?_
          refine Tr.pOn (by first | exact List.Sublist.refl _ | exact List.sublist_cons_self _ _ | exact List.sublist_append_right _ _ | simp) ?_
          refine TrP.hard rfl (W.alloc (cs := [0#64, 0#64, 0#64, 0#64, 0#64].map U64) Try.zeroValue41 rfl rfl fun g16 => ?_)
          refine Tr.pOn (by first | exact List.Sublist.refl _ | exact List.sublist_cons_self _ _ | exact List.sublist_append_right _ _ | simp) ?_
          refine TrP.hard rfl (W.storeAll (vs := sm.map U64) (cs := [0#64, 0#64, 0#64, 0#64, 0#64].map U64) Try.sizeOf41 rfl rfl (by rw [List.length_map, hsml]) rfl (one64 _) (by repeat (first | exact Upd.head | apply Upd.tail)) ?_)
          refine Tr.pTail rfl ?_
          refine TrP.hard rfl (W.storeAll (vs := ls.map U64) (cs := [0#64, 0#64, 0#64, 0#64, 0#64].map U64) Try.sizeOf41 rfl rfl (by rw [List.length_map, hlsl]) rfl (one64 _) (by repeat (first | exact Upd.head | apply Upd.tail)) ?_)
          refine Tr.pTail rfl ?_
          refine TrP.done ?_
          refine Tr.thenN ?_
          refine Tr.seq ?_
          refine Tr.regionD [0, 0, 3, 0, 0, 0, 7, 103, 247, 511, 1023, 2047] [11] (.soft 0 (.soft 1 (.soft 2 (.soft 3 (.soft 4 (.soft 5 (.soft 6 (.soft 7 (.soft 8 (.soft 9 (.pure 10 (.hard 11 .done)))))))))))) mixed (by kernel_rfl) ?_
          refine TrP.soft rfl (V.loadN (cs := aa.map U64) Try.isAgg41 (by rw [List.length_map, haal]; exact Try.sizeOf41) rfl (V.cellsB (by repeat (first | exact List.Mem.head _ | apply List.Mem.tail)))) rfl ?_
          refine TrP.soft rfl (V.loadN (cs := bb.map U64) Try.isAgg41 (by rw [List.length_map, hbbl]; exact Try.sizeOf41) rfl (V.cellsB (by repeat (first | exact List.Mem.head _ | apply List.Mem.tail)))) rfl ?_
          refine TrP.call rfl (args2 rfl rfl) Try.call23 rfl (fun w1 _ => by have h := emul_any aa bb w1 haal hbbl; rw [← hx2] at h; exact h) ?_
          refine TrP.soft rfl (V.loadN (cs := e.map U64) Try.isAgg41 (by rw [List.length_map, hel]; exact Try.sizeOf41) rfl (V.cellsB (by repeat (first | exact List.Mem.head _ | apply List.Mem.tail)))) rfl ?_
          refine TrP.soft rfl (V.loadN (cs := aa.map U64) Try.isAgg41 (by rw [List.length_map, haal]; exact Try.sizeOf41) rfl (V.cellsB (by repeat (first | exact List.Mem.head _ | apply List.Mem.tail)))) rfl ?_
          refine TrP.soft rfl (V.loadN (cs := e.map U64) Try.isAgg41 (by rw [List.length_map, hel]; exact Try.sizeOf41) rfl (V.cellsB (by repeat (first | exact List.Mem.head _ | apply List.Mem.tail)))) rfl ?_
          refine TrP.call rfl (vs := [U32 121665#32]) (args1 rfl) Try.call20 rfl (fun w1 _ => small_any 121665#32 w1) ?_
          refine TrP.call rfl (args2 rfl rfl) Try.call23 rfl (fun w1 _ => by have h := emul_any e (smallL 121665#32) w1 hel hsl; rw [← ht1] at h; exact h) ?_
          refine TrP.call rfl (args2 rfl rfl) Try.call34 rfl (fun w1 _ => by have h := eadd_any aa t1 w1 haal ht1l; rw [← ht2] at h; exact h) ?_
          refine TrP.call rfl (args2 rfl rfl) Try.call23 rfl (fun w1 _ => by have h := emul_any e t2 w1 hel ht2l; rw [← hz2] at h; exact h) ?_
          refine TrP.pure rfl (fun _ => (V.buildS (vs := [(0, .agg (x2.map U64).toArray), (1, .agg (z2.map U64).toArray)]) (pl := #[(0, 5), (5, 5)]) (cs := (x2.map U64 ++ z2.map U64).toArray) Try.runUnderlying47 Try.zeroValue47 (fun w => by simp [Try.sizeOf41]) (fun a he => by simp [he.eval (x := .tmp 58) (v := .agg (x2.map U64).toArray) rfl, he.eval (x := .tmp 65) (v := .agg (z2.map U64).toArray) rfl]) (fill_two rfl rfl (by rw [List.length_map, hx2l]) (by rw [List.length_map, hz2l]) rfl))) rfl ?_
          refine TrP.hard rfl (W.storeAll (vs := (x2.map U64 ++ z2.map U64)) (cs := (x.map U64 ++ z.map U64)) Try.sizeOf47 rfl rfl (by rw [List.length_append, List.length_map, List.length_map, hx2l, hz2l]) (by rw [List.length_append, List.length_map, List.length_map, hx, hz]) (one2 _ _) (by repeat (first | exact Upd.head | apply Upd.tail)) ?_)
          refine Tr.pTail rfl ?_
          refine TrP.done ?_
          refine Tr.thenN ?_
          refine Tr.seq ?_
          refine Tr.regionD [0, 0, 0, 6, 0, 0, 62, 0, 254, 510, 511, 2047] [10, 11] (.soft 0 (.soft 1 (.soft 2 (.soft 3 (.soft 4 (.soft 5 (.soft 6 (.soft 7 (.soft 8 (.pure 9 (.hard 10 (.hard 11 .done)))))))))))) mixed (by kernel_rfl) ?_
          refine TrP.soft rfl (V.loadN (cs := (x2.map U64 ++ z2.map U64)) Try.isAgg47 (by rw [List.length_append, List.length_map, List.length_map, hx2l, hz2l]; exact Try.sizeOf47) rfl (V.cellsB (by repeat (first | exact List.Mem.head _ | apply List.Mem.tail)))) rfl ?_
          refine TrP.soft rfl (V.loadN (cs := sm.map U64) Try.isAgg41 (by rw [List.length_map, hsml]; exact Try.sizeOf41) rfl (V.cellsB (by repeat (first | exact List.Mem.head _ | apply List.Mem.tail)))) rfl ?_
          refine TrP.soft rfl (V.loadN (cs := sm.map U64) Try.isAgg41 (by rw [List.length_map, hsml]; exact Try.sizeOf41) rfl (V.cellsB (by repeat (first | exact List.Mem.head _ | apply List.Mem.tail)))) rfl ?_
          refine TrP.call rfl (args2 rfl rfl) Try.call23 rfl (fun w1 _ => by have h := emul_any sm sm w1 hsml hsml; rw [← hx3] at h; exact h) ?_
          refine TrP.soft rfl (V.loadN (cs := ls.map U64) Try.isAgg41 (by rw [List.length_map, hlsl]; exact Try.sizeOf41) rfl (V.cellsB (by repeat (first | exact List.Mem.head _ | apply List.Mem.tail)))) rfl ?_
          refine TrP.soft rfl (V.loadN (cs := ls.map U64) Try.isAgg41 (by rw [List.length_map, hlsl]; exact Try.sizeOf41) rfl (V.cellsB (by repeat (first | exact List.Mem.head _ | apply List.Mem.tail)))) rfl ?_
          refine TrP.call rfl (args2 rfl rfl) Try.call23 rfl (fun w1 _ => by have h := emul_any ls ls w1 hlsl hlsl; rw [← ht3] at h; exact h) ?_
          refine TrP.soft rfl (V.loadN (cs := u.map U64) Try.isAgg41 (by rw [List.length_map, hul]; exact Try.sizeOf41) rfl (V.cellsB (by repeat (first | exact List.Mem.head _ | apply List.Mem.tail)))) rfl ?_
          refine TrP.call rfl (args2 rfl rfl) Try.call23 rfl (fun w1 _ => by have h := emul_any t3 u w1 ht3l hul; rw [← hz3] at h; exact h) ?_
          refine TrP.pure rfl (fun _ => (V.buildS (vs := [(0, .agg (x3.map U64).toArray), (1, .agg (z3.map U64).toArray)]) (pl := #[(0, 5), (5, 5)]) (cs := (x3.map U64 ++ z3.map U64).toArray) Try.runUnderlying47 Try.zeroValue47 (fun w => by simp [Try.sizeOf41]) (fun a he => by simp [he.eval (x := .tmp 70) (v := .agg (x3.map U64).toArray) rfl, he.eval (x := .tmp 75) (v := .agg (z3.map U64).toArray) rfl]) (fill_two rfl rfl (by rw [List.length_map, hx3l]) (by rw [List.length_map, hz3l]) rfl))) rfl ?_
          refine TrP.hard rfl (W.storeAll (vs := (x2.map U64 ++ z2.map U64)) (cs := (List.replicate 10 0#64).map U64) Try.sizeOf47 rfl rfl (by rw [List.length_append, List.length_map, List.length_map, hx2l, hz2l]) (by simp) (one2 _ _) (by repeat (first | exact Upd.head | apply Upd.tail)) ?_)
          refine Tr.pTail rfl ?_
          refine TrP.hard rfl (W.storeAll (vs := (x3.map U64 ++ z3.map U64)) (cs := (List.replicate 10 0#64).map U64) Try.sizeOf47 rfl rfl (by rw [List.length_append, List.length_map, List.length_map, hx3l, hz3l]) (by simp) (one2 _ _) (by repeat (first | exact Upd.head | apply Upd.tail)) ?_)
          refine Tr.pTail rfl ?_
          refine TrP.done ?_
          refine Tr.thenN ?_
          refine Tr.ret ?_
          refine Tr.out2 rfl (Res.cellN (cs := (x2.map U64 ++ z2.map U64)) rfl Try.isAgg47 (by rw [List.length_append, List.length_map, List.length_map, hx2l, hz2l]; exact Try.sizeOf47) (by repeat (first | exact List.Mem.head _ | apply List.Mem.tail))) (Res.cellN (cs := (x3.map U64 ++ z3.map U64)) rfl Try.isAgg47 (by rw [List.length_append, List.length_map, List.length_map, hx3l, hz3l]; exact Try.sizeOf47) (by repeat (first | exact List.Mem.head _ | apply List.Mem.tail))) fun w hw => ?_
          exact ⟨by rw [hD, hA]; rfl, hw.sub (List.nil_sublist _)⟩
        · refine W.alloc (cs := [0#64, 0#64, 0#64, 0#64, 0#64].map U64) Try.zeroValue41 rfl rfl fun g16 => ?_
          refine Tr.pOn (by first | exact List.Sublist.refl _ | exact List.sublist_cons_self _ _ | exact List.sublist_append_right _ _ | simp) ?_
          refine TrP.hard rfl (W.alloc (cs := [0#64, 0#64, 0#64, 0#64, 0#64].map U64) Try.zeroValue41 rfl rfl fun g15 => ?_)
          refine Tr.pOn (by first | exact List.Sublist.refl _ | exact List.sublist_cons_self _ _ | exact List.sublist_append_right _ _ | simp) ?_
          refine TrP.hard rfl (W.storeAll (vs := sm.map U64) (cs := [0#64, 0#64, 0#64, 0#64, 0#64].map U64) Try.sizeOf41 rfl rfl (by rw [List.length_map, hsml]) rfl (one64 _) (by repeat (first | exact Upd.head | apply Upd.tail)) ?_)
          refine Tr.pTail rfl ?_
          refine TrP.hard rfl (W.storeAll (vs := ls.map U64) (cs := [0#64, 0#64, 0#64, 0#64, 0#64].map U64) Try.sizeOf41 rfl rfl (by rw [List.length_map, hlsl]) rfl (one64 _) (by repeat (first | exact Upd.head | apply Upd.tail)) ?_)
          refine Tr.pTail rfl ?_
          refine TrP.done ?_
          refine Tr.thenN ?_
          refine Tr.seq ?_
          refine Tr.regionD [0, 0, 3, 0, 0, 0, 7, 103, 247, 511, 1023, 2047] [11] (.soft 0 (.soft 1 (.soft 2 (.soft 3 (.soft 4 (.soft 5 (.soft 6 (.soft 7 (.soft 8 (.soft 9 (.pure 10 (.hard 11 .done)))))))))))) mixed (by kernel_rfl) ?_
          refine TrP.soft rfl (V.loadN (cs := aa.map U64) Try.isAgg41 (by rw [List.length_map, haal]; exact Try.sizeOf41) rfl (V.cellsB (by repeat (first | exact List.Mem.head _ | apply List.Mem.tail)))) rfl ?_
          refine TrP.soft rfl (V.loadN (cs := bb.map U64) Try.isAgg41 (by rw [List.length_map, hbbl]; exact Try.sizeOf41) rfl (V.cellsB (by repeat (first | exact List.Mem.head _ | apply List.Mem.tail)))) rfl ?_
          refine TrP.call rfl (args2 rfl rfl) Try.call23 rfl (fun w1 _ => by have h := emul_any aa bb w1 haal hbbl; rw [← hx2] at h; exact h) ?_
          refine TrP.soft rfl (V.loadN (cs := e.map U64) Try.isAgg41 (by rw [List.length_map, hel]; exact Try.sizeOf41) rfl (V.cellsB (by repeat (first | exact List.Mem.head _ | apply List.Mem.tail)))) rfl ?_
          refine TrP.soft rfl (V.loadN (cs := aa.map U64) Try.isAgg41 (by rw [List.length_map, haal]; exact Try.sizeOf41) rfl (V.cellsB (by repeat (first | exact List.Mem.head _ | apply List.Mem.tail)))) rfl ?_
          refine TrP.soft rfl (V.loadN (cs := e.map U64) Try.isAgg41 (by rw [List.length_map, hel]; exact Try.sizeOf41) rfl (V.cellsB (by repeat (first | exact List.Mem.head _ | apply List.Mem.tail)))) rfl ?_
          refine TrP.call rfl (vs := [U32 121665#32]) (args1 rfl) Try.call20 rfl (fun w1 _ => small_any 121665#32 w1) ?_
          refine TrP.call rfl (args2 rfl rfl) Try.call23 rfl (fun w1 _ => by have h := emul_any e (smallL 121665#32) w1 hel hsl; rw [← ht1] at h; exact h) ?_
          refine TrP.call rfl (args2 rfl rfl) Try.call34 rfl (fun w1 _ => by have h := eadd_any aa t1 w1 haal ht1l; rw [← ht2] at h; exact h) ?_
          refine TrP.call rfl (args2 rfl rfl) Try.call23 rfl (fun w1 _ => by have h := emul_any e t2 w1 hel ht2l; rw [← hz2] at h; exact h) ?_
          refine TrP.pure rfl (fun _ => (V.buildS (vs := [(0, .agg (x2.map U64).toArray), (1, .agg (z2.map U64).toArray)]) (pl := #[(0, 5), (5, 5)]) (cs := (x2.map U64 ++ z2.map U64).toArray) Try.runUnderlying47 Try.zeroValue47 (fun w => by simp [Try.sizeOf41]) (fun a he => by simp [he.eval (x := .tmp 58) (v := .agg (x2.map U64).toArray) rfl, he.eval (x := .tmp 65) (v := .agg (z2.map U64).toArray) rfl]) (fill_two rfl rfl (by rw [List.length_map, hx2l]) (by rw [List.length_map, hz2l]) rfl))) rfl ?_
          refine TrP.hard rfl (W.storeAll (vs := (x2.map U64 ++ z2.map U64)) (cs := (x.map U64 ++ z.map U64)) Try.sizeOf47 rfl rfl (by rw [List.length_append, List.length_map, List.length_map, hx2l, hz2l]) (by rw [List.length_append, List.length_map, List.length_map, hx, hz]) (one2 _ _) (by repeat (first | exact Upd.head | apply Upd.tail)) ?_)
          refine Tr.pTail rfl ?_
          refine TrP.done ?_
          refine Tr.thenN ?_
          refine Tr.seq ?_
          refine Tr.regionD [0, 0, 0, 6, 0, 0, 62, 0, 254, 510, 511, 2047] [10, 11] (.soft 0 (.soft 1 (.soft 2 (.soft 3 (.soft 4 (.soft 5 (.soft 6 (.soft 7 (.soft 8 (.pure 9 (.hard 10 (.hard 11 .done)))))))))))) mixed (by kernel_rfl) ?_
          refine TrP.soft rfl (V.loadN (cs := (x2.map U64 ++ z2.map U64)) Try.isAgg47 (by rw [List.length_append, List.length_map, List.length_map, hx2l, hz2l]; exact Try.sizeOf47) rfl (V.cellsB (by repeat (first | exact List.Mem.head _ | apply List.Mem.tail)))) rfl ?_
          refine TrP.soft rfl (V.loadN (cs := sm.map U64) Try.isAgg41 (by rw [List.length_map, hsml]; exact Try.sizeOf41) rfl (V.cellsB (by repeat (first | exact List.Mem.head _ | apply List.Mem.tail)))) rfl ?_
          refine TrP.soft rfl (V.loadN (cs := sm.map U64) Try.isAgg41 (by rw [List.length_map, hsml]; exact Try.sizeOf41) rfl (V.cellsB (by repeat (first | exact List.Mem.head _ | apply List.Mem.tail)))) rfl ?_
          refine TrP.call rfl (args2 rfl rfl) Try.call23 rfl (fun w1 _ => by have h := emul_any sm sm w1 hsml hsml; rw [← hx3] at h; exact h) ?_
          refine TrP.soft rfl (V.loadN (cs := ls.map U64) Try.isAgg41 (by rw [List.length_map, hlsl]; exact Try.sizeOf41) rfl (V.cellsB (by repeat (first | exact List.Mem.head _ | apply List.Mem.tail)))) rfl ?_
          refine TrP.soft rfl (V.loadN (cs := ls.map U64) Try.isAgg41 (by rw [List.length_map, hlsl]; exact Try.sizeOf41) rfl (V.cellsB (by repeat (first | exact List.Mem.head _ | apply List.Mem.tail)))) rfl ?_
          refine TrP.call rfl (args2 rfl rfl) Try.call23 rfl (fun w1 _ => by have h := emul_any ls ls w1 hlsl hlsl; rw [← ht3] at h; exact h) ?_
          refine TrP.soft rfl (V.loadN (cs := u.map U64) Try.isAgg41 (by rw [List.length_map, hul]; exact Try.sizeOf41) rfl (V.cellsB (by repeat (first | exact List.Mem.head _ | apply List.Mem.tail)))) rfl ?_
          refine TrP.call rfl (args2 rfl rfl) Try.call23 rfl (fun w1 _ => by have h := emul_any t3 u w1 ht3l hul; rw [← hz3] at h; exact h) ?_
          refine TrP.pure rfl (fun _ => (V.buildS (vs := [(0, .agg (x3.map U64).toArray), (1, .agg (z3.map U64).toArray)]) (pl := #[(0, 5), (5, 5)]) (cs := (x3.map U64 ++ z3.map U64).toArray) Try.runUnderlying47 Try.zeroValue47 (fun w => by simp [Try.sizeOf41]) (fun a he => by simp [he.eval (x := .tmp 70) (v := .agg (x3.map U64).toArray) rfl, he.eval (x := .tmp 75) (v := .agg (z3.map U64).toArray) rfl]) (fill_two rfl rfl (by rw [List.length_map, hx3l]) (by rw [List.length_map, hz3l]) rfl))) rfl ?_
          refine TrP.hard rfl (W.storeAll (vs := (x2.map U64 ++ z2.map U64)) (cs := (List.replicate 10 0#64).map U64) Try.sizeOf47 rfl rfl (by rw [List.length_append, List.length_map, List.length_map, hx2l, hz2l]) (by simp) (one2 _ _) (by repeat (first | exact Upd.head | apply Upd.tail)) ?_)
          refine Tr.pTail rfl ?_
          refine TrP.hard rfl (W.storeAll (vs := (x3.map U64 ++ z3.map U64)) (cs := (List.replicate 10 0#64).map U64) Try.sizeOf47 rfl rfl (by rw [List.length_append, List.length_map, List.length_map, hx3l, hz3l]) (by simp) (one2 _ _) (by repeat (first | exact Upd.head | apply Upd.tail)) ?_)
          refine Tr.pTail rfl ?_
          refine TrP.done ?_
          refine Tr.thenN ?_
          refine Tr.ret ?_
          refine Tr.out2 rfl (Res.cellN (cs := (x2.map U64 ++ z2.map U64)) rfl Try.isAgg47 (by rw [List.length_append, List.length_map, List.length_map, hx2l, hz2l]; exact Try.sizeOf47) (by repeat (first | exact List.Mem.head _ | apply List.Mem.tail))) (Res.cellN (cs := (x3.map U64 ++ z3.map U64)) rfl Try.isAgg47 (by rw [List.length_append, List.length_map, List.length_map, hx3l, hz3l]; exact Try.sizeOf47) (by repeat (first | exact List.Mem.head _ | apply List.Mem.tail))) fun w hw => ?_
          exact ⟨by rw [hD, hA]; rfl, hw.sub (List.nil_sublist _)⟩
      · refine W.alloc (cs := [0#64, 0#64, 0#64, 0#64, 0#64].map U64) Try.zeroValue41 rfl rfl fun g14 => ?_
        refine Tr.pOn (by first | exact List.Sublist.refl _ | exact List.sublist_cons_self _ _ | exact List.sublist_append_right _ _ | simp) ?_
        refine TrP.hard rfl (W.alloc (cs := [0#64, 0#64, 0#64, 0#64, 0#64].map U64) Try.zeroValue41 rfl rfl fun g13 => ?_)
        refine Tr.pOn (by first | exact List.Sublist.refl _ | exact List.sublist_cons_self _ _ | exact List.sublist_append_right _ _ | simp) ?_
        refine TrP.hard rfl (W.storeAll (vs := da.map U64) (cs := [0#64, 0#64, 0#64, 0#64, 0#64].map U64) Try.sizeOf41 rfl rfl (by rw [List.length_map, hdal]) rfl (one64 _) (by repeat (first | exact Upd.head | apply Upd.tail)) ?_)
        refine Tr.pTail rfl ?_
        refine TrP.hard rfl (W.storeAll (vs := cb.map U64) (cs := [0#64, 0#64, 0#64, 0#64, 0#64].map U64) Try.sizeOf41 rfl rfl (by rw [List.length_map, hcbl]) rfl (one64 _) (by repeat (first | exact Upd.head | apply Upd.tail)) ?_)
        refine Tr.pTail rfl ?_
        refine TrP.done ?_
        refine Tr.thenN ?_
        refine Tr.seq ?_
        refine Tr.regionD [0, 0, 3, 0, 0, 31, 0, 0, 255, 511] [8, 9] (.soft 0 (.soft 1 (.soft 2 (.soft 3 (.soft 4 (.soft 5 (.two 6 (.hard 7 (.hard 8 (.hard 9 .done))) 7 (.hard 6 (.hard 8 (.hard 9 .done)))))))))) mixed (by kernel_rfl) ?_
        refine TrP.soft rfl (V.loadN (cs := da.map U64) Try.isAgg41 (by rw [List.length_map, hdal]; exact Try.sizeOf41) rfl (V.cellsB (by repeat (first | exact List.Mem.head _ | apply List.Mem.tail)))) rfl ?_
        refine TrP.soft rfl (V.loadN (cs := cb.map U64) Try.isAgg41 (by rw [List.length_map, hcbl]; exact Try.sizeOf41) rfl (V.cellsB (by repeat (first | exact List.Mem.head _ | apply List.Mem.tail)))) rfl ?_
        refine TrP.call rfl (args2 rfl rfl) Try.call34 rfl (fun w1 _ => by have h := eadd_any da cb w1 hdal hcbl; rw [← hsm] at h; exact h) ?_
        refine TrP.soft rfl (V.loadN (cs := da.map U64) Try.isAgg41 (by rw [List.length_map, hdal]; exact Try.sizeOf41) rfl (V.cellsB (by repeat (first | exact List.Mem.head _ | apply List.Mem.tail)))) rfl ?_
        refine TrP.soft rfl (V.loadN (cs := cb.map U64) Try.isAgg41 (by rw [List.length_map, hcbl]; exact Try.sizeOf41) rfl (V.cellsB (by repeat (first | exact List.Mem.head _ | apply List.Mem.tail)))) rfl ?_
        refine TrP.call rfl (args2 rfl rfl) Try.call35 rfl (fun w1 _ => by have h := esub_any da cb w1 hdal hcbl; rw [← hls] at h; exact h) ?_
        refine TrP.two rfl rfl ?_ ?_
        · refine W.alloc (cs := [0#64, 0#64, 0#64, 0#64, 0#64].map U64) Try.zeroValue41 rfl rfl fun g15 => ?_
          refine Tr.pOn (by first | exact List.Sublist.refl _ | exact List.sublist_cons_self _ _ | exact List.sublist_append_right _ _ | simp) ?_
          refine TrP.hard rfl (W.alloc (cs := [0#64, 0#64, 0#64, 0#64, 0#64].map U64) Try.zeroValue41 rfl rfl fun g16 => ?_)
          refine Tr.pOn (by first | exact List.Sublist.refl _ | exact List.sublist_cons_self _ _ | exact List.sublist_append_right _ _ | simp) ?_
          refine TrP.hard rfl (W.storeAll (vs := sm.map U64) (cs := [0#64, 0#64, 0#64, 0#64, 0#64].map U64) Try.sizeOf41 rfl rfl (by rw [List.length_map, hsml]) rfl (one64 _) (by repeat (first | exact Upd.head | apply Upd.tail)) ?_)
          refine Tr.pTail rfl ?_
          refine TrP.hard rfl (W.storeAll (vs := ls.map U64) (cs := [0#64, 0#64, 0#64, 0#64, 0#64].map U64) Try.sizeOf41 rfl rfl (by rw [List.length_map, hlsl]) rfl (one64 _) (by repeat (first | exact Upd.head | apply Upd.tail)) ?_)
          refine Tr.pTail rfl ?_
          refine TrP.done ?_
          refine Tr.thenN ?_
          refine Tr.seq ?_
          refine Tr.regionD [0, 0, 3, 0, 0, 0, 7, 103, 247, 511, 1023, 2047] [11] (.soft 0 (.soft 1 (.soft 2 (.soft 3 (.soft 4 (.soft 5 (.soft 6 (.soft 7 (.soft 8 (.soft 9 (.pure 10 (.hard 11 .done)))))))))))) mixed (by kernel_rfl) ?_
          refine TrP.soft rfl (V.loadN (cs := aa.map U64) Try.isAgg41 (by rw [List.length_map, haal]; exact Try.sizeOf41) rfl (V.cellsB (by repeat (first | exact List.Mem.head _ | apply List.Mem.tail)))) rfl ?_
          refine TrP.soft rfl (V.loadN (cs := bb.map U64) Try.isAgg41 (by rw [List.length_map, hbbl]; exact Try.sizeOf41) rfl (V.cellsB (by repeat (first | exact List.Mem.head _ | apply List.Mem.tail)))) rfl ?_
          refine TrP.call rfl (args2 rfl rfl) Try.call23 rfl (fun w1 _ => by have h := emul_any aa bb w1 haal hbbl; rw [← hx2] at h; exact h) ?_
          refine TrP.soft rfl (V.loadN (cs := e.map U64) Try.isAgg41 (by rw [List.length_map, hel]; exact Try.sizeOf41) rfl (V.cellsB (by repeat (first | exact List.Mem.head _ | apply List.Mem.tail)))) rfl ?_
          refine TrP.soft rfl (V.loadN (cs := aa.map U64) Try.isAgg41 (by rw [List.length_map, haal]; exact Try.sizeOf41) rfl (V.cellsB (by repeat (first | exact List.Mem.head _ | apply List.Mem.tail)))) rfl ?_
          refine TrP.soft rfl (V.loadN (cs := e.map U64) Try.isAgg41 (by rw [List.length_map, hel]; exact Try.sizeOf41) rfl (V.cellsB (by repeat (first | exact List.Mem.head _ | apply List.Mem.tail)))) rfl ?_
          refine TrP.call rfl (vs := [U32 121665#32]) (args1 rfl) Try.call20 rfl (fun w1 _ => small_any 121665#32 w1) ?_
          refine TrP.call rfl (args2 rfl rfl) Try.call23 rfl (fun w1 _ => by have h := emul_any e (smallL 121665#32) w1 hel hsl; rw [← ht1] at h; exact h) ?_
          refine TrP.call rfl (args2 rfl rfl) Try.call34 rfl (fun w1 _ => by have h := eadd_any aa t1 w1 haal ht1l; rw [← ht2] at h; exact h) ?_
          refine TrP.call rfl (args2 rfl rfl) Try.call23 rfl (fun w1 _ => by have h := emul_any e t2 w1 hel ht2l; rw [← hz2] at h; exact h) ?_
          refine TrP.pure rfl (fun _ => (V.buildS (vs := [(0, .agg (x2.map U64).toArray), (1, .agg (z2.map U64).toArray)]) (pl := #[(0, 5), (5, 5)]) (cs := (x2.map U64 ++ z2.map U64).toArray) Try.runUnderlying47 Try.zeroValue47 (fun w => by simp [Try.sizeOf41]) (fun a he => by simp [he.eval (x := .tmp 58) (v := .agg (x2.map U64).toArray) rfl, he.eval (x := .tmp 65) (v := .agg (z2.map U64).toArray) rfl]) (fill_two rfl rfl (by rw [List.length_map, hx2l]) (by rw [List.length_map, hz2l]) rfl))) rfl ?_
          refine TrP.hard rfl (W.storeAll (vs := (x2.map U64 ++ z2.map U64)) (cs := (x.map U64 ++ z.map U64)) Try.sizeOf47 rfl rfl (by rw [List.length_append, List.length_map, List.length_map, hx2l, hz2l]) (by rw [List.length_append, List.length_map, List.length_map, hx, hz]) (one2 _ _) (by repeat (first | exact Upd.head | apply Upd.tail)) ?_)
          refine Tr.pTail rfl ?_
          refine TrP.done ?_
          refine Tr.thenN ?_
          refine Tr.seq ?_
          refine Tr.regionD [0, 0, 0, 6, 0, 0, 62, 0, 254, 510, 511, 2047] [10, 11] (.soft 0 (.soft 1 (.soft 2 (.soft 3 (.soft 4 (.soft 5 (.soft 6 (.soft 7 (.soft 8 (.pure 9 (.hard 10 (.hard 11 .done)))))))))))) mixed (by kernel_rfl) ?_
          refine TrP.soft rfl (V.loadN (cs := (x2.map U64 ++ z2.map U64)) Try.isAgg47 (by rw [List.length_append, List.length_map, List.length_map, hx2l, hz2l]; exact Try.sizeOf47) rfl (V.cellsB (by repeat (first | exact List.Mem.head _ | apply List.Mem.tail)))) rfl ?_
          refine TrP.soft rfl (V.loadN (cs := sm.map U64) Try.isAgg41 (by rw [List.length_map, hsml]; exact Try.sizeOf41) rfl (V.cellsB (by repeat (first | exact List.Mem.head _ | apply List.Mem.tail)))) rfl ?_
          refine TrP.soft rfl (V.loadN (cs := sm.map U64) Try.isAgg41 (by rw [List.length_map, hsml]; exact Try.sizeOf41) rfl (V.cellsB (by repeat (first | exact List.Mem.head _ | apply List.Mem.tail)))) rfl ?_
          refine TrP.call rfl (args2 rfl rfl) Try.call23 rfl (fun w1 _ => by have h := emul_any sm sm w1 hsml hsml; rw [← hx3] at h; exact h) ?_
          refine TrP.soft rfl (V.loadN (cs := ls.map U64) Try.isAgg41 (by rw [List.length_map, hlsl]; exact Try.sizeOf41) rfl (V.cellsB (by repeat (first | exact List.Mem.head _ | apply List.Mem.tail)))) rfl ?_
          refine TrP.soft rfl (V.loadN (cs := ls.map U64) Try.isAgg41 (by rw [List.length_map, hlsl]; exact Try.sizeOf41) rfl (V.cellsB (by repeat (first | exact List.Mem.head _ | apply List.Mem.tail)))) rfl ?_
          refine TrP.call rfl (args2 rfl rfl) Try.call23 rfl (fun w1 _ => by have h := emul_any ls ls w1 hlsl hlsl; rw [← ht3] at h; exact h) ?_
          refine TrP.soft rfl (V.loadN (cs := u.map U64) Try.isAgg41 (by rw [List.length_map, hul]; exact Try.sizeOf41) rfl (V.cellsB (by repeat (first | exact List.Mem.head _ | apply List.Mem.tail)))) rfl ?_
          refine TrP.call rfl (args2 rfl rfl) Try.call23 rfl (fun w1 _ => by have h := emul_any t3 u w1 ht3l hul; rw [← hz3] at h; exact h) ?_
          refine TrP.pure rfl (fun _ => (V.buildS (vs := [(0, .agg (x3.map U64).toArray), (1, .agg (z3.map U64).toArray)]) (pl := #[(0, 5), (5, 5)]) (cs := (x3.map U64 ++ z3.map U64).toArray) Try.runUnderlying47 Try.zeroValue47 (fun w => by simp [Try.sizeOf41]) (fun a he => by simp [he.eval (x := .tmp 70) (v := .agg (x3.map U64).toArray) rfl, he.eval (x := .tmp 75) (v := .agg (z3.map U64).toArray) rfl]) (fill_two rfl rfl (by rw [List.length_map, hx3l]) (by rw [List.length_map, hz3l]) rfl))) rfl ?_
          refine TrP.hard rfl (W.storeAll (vs := (x2.map U64 ++ z2.map U64)) (cs := (List.replicate 10 0#64).map U64) Try.sizeOf47 rfl rfl (by rw [List.length_append, List.length_map, List.length_map, hx2l, hz2l]) (by simp) (one2 _ _) (by repeat (first | exact Upd.head | apply Upd.tail)) ?_)
          refine Tr.pTail rfl ?_
          refine TrP.hard rfl (W.storeAll (vs := (x3.map U64 ++ z3.map U64)) (cs := (List.replicate 10 0#64).map U64) Try.sizeOf47 rfl rfl (by rw [List.length_append, List.length_map, List.length_map, hx3l, hz3l]) (by simp) (one2 _ _) (by repeat (first | exact Upd.head | apply Upd.tail)) ?_)
          refine Tr.pTail rfl ?_
          refine TrP.done ?_
          refine Tr.thenN ?_
          refine Tr.ret ?_
          refine Tr.out2 rfl (Res.cellN (cs := (x2.map U64 ++ z2.map U64)) rfl Try.isAgg47 (by rw [List.length_append, List.length_map, List.length_map, hx2l, hz2l]; exact Try.sizeOf47) (by repeat (first | exact List.Mem.head _ | apply List.Mem.tail))) (Res.cellN (cs := (x3.map U64 ++ z3.map U64)) rfl Try.isAgg47 (by rw [List.length_append, List.length_map, List.length_map, hx3l, hz3l]; exact Try.sizeOf47) (by repeat (first | exact List.Mem.head _ | apply List.Mem.tail))) fun w hw => ?_
          exact ⟨by rw [hD, hA]; rfl, hw.sub (List.nil_sublist _)⟩
        · refine W.alloc (cs := [0#64, 0#64, 0#64, 0#64, 0#64].map U64) Try.zeroValue41 rfl rfl fun g16 => ?_
          refine Tr.pOn (by first | exact List.Sublist.refl _ | exact List.sublist_cons_self _ _ | exact List.sublist_append_right _ _ | simp) ?_
          refine TrP.hard rfl (W.alloc (cs := [0#64, 0#64, 0#64, 0#64, 0#64].map U64) Try.zeroValue41 rfl rfl fun g15 => ?_)
          refine Tr.pOn (by first | exact List.Sublist.refl _ | exact List.sublist_cons_self _ _ | exact List.sublist_append_right _ _ | simp) ?_
          refine TrP.hard rfl (W.storeAll (vs := sm.map U64) (cs := [0#64, 0#64, 0#64, 0#64, 0#64].map U64) Try.sizeOf41 rfl rfl (by rw [List.length_map, hsml]) rfl (one64 _) (by repeat (first | exact Upd.head | apply Upd.tail)) ?_)
          refine Tr.pTail rfl ?_
          refine TrP.hard rfl (W.storeAll (vs := ls.map U64) (cs := [0#64, 0#64, 0#64, 0#64, 0#64].map U64) Try.sizeOf41 rfl rfl (by rw [List.length_map, hlsl]) rfl (one64 _) (by repeat (first | exact Upd.head | apply Upd.tail)) ?_)
          refine Tr.pTail rfl ?_
          refine TrP.done ?_
          refine Tr.thenN ?_
          refine Tr.seq ?_
          refine Tr.regionD [0, 0, 3, 0, 0, 0, 7, 103, 247, 511, 1023, 2047] [11] (.soft 0 (.soft 1 (.soft 2 (.soft 3 (.soft 4 (.soft 5 (.soft 6 (.soft 7 (.soft 8 (.soft 9 (.pure 10 (.hard 11 .done)))))))))))) mixed (by kernel_rfl) ?_
          refine TrP.soft rfl (V.loadN (cs := aa.map U64) Try.isAgg41 (by rw [List.length_map, haal]; exact Try.sizeOf41) rfl (V.cellsB (by repeat (first | exact List.Mem.head _ | apply List.Mem.tail)))) rfl ?_
          refine TrP.soft rfl (V.loadN (cs := bb.map U64) Try.isAgg41 (by rw [List.length_map, hbbl]; exact Try.sizeOf41) rfl (V.cellsB (by repeat (first | exact List.Mem.head _ | apply List.Mem.tail)))) rfl ?_
          refine TrP.call rfl (args2 rfl rfl) Try.call23 rfl (fun w1 _ => by have h := emul_any aa bb w1 haal hbbl; rw [← hx2] at h; exact h) ?_
          refine TrP.soft rfl (V.loadN (cs := e.map U64) Try.isAgg41 (by rw [List.length_map, hel]; exact Try.sizeOf41) rfl (V.cellsB (by repeat (first | exact List.Mem.head _ | apply List.Mem.tail)))) rfl ?_
          refine TrP.soft rfl (V.loadN (cs := aa.map U64) Try.isAgg41 (by rw [List.length_map, haal]; exact Try.sizeOf41) rfl (V.cellsB (by repeat (first | exact List.Mem.head _ | apply List.Mem.tail)))) rfl ?_
          refine TrP.soft rfl (V.loadN (cs := e.map U64) Try.isAgg41 (by rw [List.length_map, hel]; exact Try.sizeOf41) rfl (V.cellsB (by repeat (first | exact List.Mem.head _ | apply List.Mem.tail)))) rfl ?_
          refine TrP.call rfl (vs := [U32 121665#32]) (args1 rfl) Try.call20 rfl (fun w1 _ => small_any 121665#32 w1) ?_
          refine TrP.call rfl (args2 rfl rfl) Try.call23 rfl (fun w1 _ => by have h := emul_any e (smallL 121665#32) w1 hel hsl; rw [← ht1] at h; exact h) ?_
          refine TrP.call rfl (args2 rfl rfl) Try.call34 rfl (fun w1 _ => by have h := eadd_any aa t1 w1 haal ht1l; rw [← ht2] at h; exact h) ?_
          refine TrP.call rfl (args2 rfl rfl) Try.call23 rfl (fun w1 _ => by have h := emul_any e t2 w1 hel ht2l; rw [← hz2] at h; exact h) ?_
          refine TrP.pure rfl (fun _ => (V.buildS (vs := [(0, .agg (x2.map U64).toArray), (1, .agg (z2.map U64).toArray)]) (pl := #[(0, 5), (5, 5)]) (cs := (x2.map U64 ++ z2.map U64).toArray) Try.runUnderlying47 Try.zeroValue47 (fun w => by simp [Try.sizeOf41]) (fun a he => by simp [he.eval (x := .tmp 58) (v := .agg (x2.map U64).toArray) rfl, he.eval (x := .tmp 65) (v := .agg (z2.map U64).toArray) rfl]) (fill_two rfl rfl (by rw [List.length_map, hx2l]) (by rw [List.length_map, hz2l]) rfl))) rfl ?_
          refine TrP.hard rfl (W.storeAll (vs := (x2.map U64 ++ z2.map U64)) (cs := (x.map U64 ++ z.map U64)) Try.sizeOf47 rfl rfl (by rw [List.length_append, List.length_map, List.length_map, hx2l, hz2l]) (by rw [List.length_append, List.length_map, List.length_map, hx, hz]) (one2 _ _) (by repeat (first | exact Upd.head | apply Upd.tail)) ?_)
          refine Tr.pTail rfl ?_
          refine TrP.done ?_
          refine Tr.thenN ?_
          refine Tr.seq ?_
          refine Tr.regionD [0, 0, 0, 6, 0, 0, 62, 0, 254, 510, 511, 2047] [10, 11] (.soft 0 (.soft 1 (.soft 2 (.soft 3 (.soft 4 (.soft 5 (.soft 6 (.soft 7 (.soft 8 (.pure 9 (.hard 10 (.hard 11 .done)))))))))))) mixed (by kernel_rfl) ?_
          refine TrP.soft rfl (V.loadN (cs := (x2.map U64 ++ z2.map U64)) Try.isAgg47 (by rw [List.length_append, List.length_map, List.length_map, hx2l, hz2l]; exact Try.sizeOf47) rfl (V.cellsB (by repeat (first | exact List.Mem.head _ | apply List.Mem.tail)))) rfl ?_
          refine TrP.soft rfl (V.loadN (cs := sm.map U64) Try.isAgg41 (by rw [List.length_map, hsml]; exact Try.sizeOf41) rfl (V.cellsB (by repeat (first | exact List.Mem.head _ | apply List.Mem.tail)))) rfl ?_
          refine TrP.soft rfl (V.loadN (cs := sm.map U64) Try.isAgg41 (by rw [List.length_map, hsml]; exact Try.sizeOf41) rfl (V.cellsB (by repeat (first | exact List.Mem.head _ | apply List.Mem.tail)))) rfl ?_
          refine TrP.call rfl (args2 rfl rfl) Try.call23 rfl (fun w1 _ => by have h := emul_any sm sm w1 hsml hsml; rw [← hx3] at h; exact h) ?_
          refine TrP.soft rfl (V.loadN (cs := ls.map U64) Try.isAgg41 (by rw [List.length_map, hlsl]; exact Try.sizeOf41) rfl (V.cellsB (by repeat (first | exact List.Mem.head _ | apply List.Mem.tail)))) rfl ?_
          refine TrP.soft rfl (V.loadN (cs := ls.map U64) Try.isAgg41 (by rw [List.length_map, hlsl]; exact Try.sizeOf41) rfl (V.cellsB (by repeat (first | exact List.Mem.head _ | apply List.Mem.tail)))) rfl ?_
          refine TrP.call rfl (args2 rfl rfl) Try.call23 rfl (fun w1 _ => by have h := emul_any ls ls w1 hlsl hlsl; rw [← ht3] at h; exact h) ?_
          refine TrP.soft rfl (V.loadN (cs := u.map U64) Try.isAgg41 (by rw [List.length_map, hul]; exact Try.sizeOf41) rfl (V.cellsB (by repeat (first | exact List.Mem.head _ | apply List.Mem.tail)))) rfl ?_
          refine TrP.call rfl (args2 rfl rfl) Try.call23 rfl (fun w1 _ => by have h := emul_any t3 u w1 ht3l hul; rw [← hz3] at h; exact h) ?_
          refine TrP.pure rfl (fun _ => (V.buildS (vs := [(0, .agg (x3.map U64).toArray), (1, .agg (z3.map U64).toArray)]) (pl := #[(0, 5), (5, 5)]) (cs := (x3.map U64 ++ z3.map U64).toArray) Try.runUnderlying47 Try.zeroValue47 (fun w => by simp [Try.sizeOf41]) (fun a he => by simp [he.eval (x := .tmp 70) (v := .agg (x3.map U64).toArray) rfl, he.eval (x := .tmp 75) (v := .agg (z3.map U64).toArray) rfl]) (fill_two rfl rfl (by rw [List.length_map, hx3l]) (by rw [List.length_map, hz3l]) rfl))) rfl ?_
          refine TrP.hard rfl (W.storeAll (vs := (x2.map U64 ++ z2.map U64)) (cs := (List.replicate 10 0#64).map U64) Try.sizeOf47 rfl rfl (by rw [List.length_append, List.length_map, List.length_map, hx2l, hz2l]) (by simp) (one2 _ _) (by repeat (first | exact Upd.head | apply Upd.tail)) ?_)
          refine Tr.pTail rfl ?_
          refine TrP.hard rfl (W.storeAll (vs := (x3.map U64 ++ z3.map U64)) (cs := (List.replicate 10 0#64).map U64) Try.sizeOf47 rfl rfl (by rw [List.length_append, List.length_map, List.length_map, hx3l, hz3l]) (by simp) (one2 _ _) (by repeat (first | exact Upd.head | apply Upd.tail)) ?_)
          refine Tr.pTail rfl ?_
          refine TrP.done ?_
          refine Tr.thenN ?_
          refine Tr.ret ?_
          refine Tr.out2 rfl (Res.cellN (cs := (x2.map U64 ++ z2.map U64)) rfl Try.isAgg47 (by rw [List.length_append, List.length_map, List.length_map, hx2l, hz2l]; exact Try.sizeOf47) (by repeat (first | exact List.Mem.head _ | apply List.Mem.tail))) (Res.cellN (cs := (x3.map U64 ++ z3.map U64)) rfl Try.isAgg47 (by rw [List.length_append, List.length_map, List.length_map, hx3l, hz3l]; exact Try.sizeOf47) (by repeat (first | exact List.Mem.head _ | apply List.Mem.tail))) fun w hw => ?_
          exact ⟨by rw [hD, hA]; rfl, hw.sub (List.nil_sublist _)⟩

theorem clamped_any (key : List (BitVec 8)) (w : World) (hk : key.length = 32) : Calls Try.prog 19 [.agg (key.map U8).toArray].toArray w fun r w' => r = .returned (.agg ((clampL key).map U8).toArray) ∧ Hp w [] [] w' := by
  obtain ⟨k1, hk1⟩ : ∃ k, k = (key.set 0 (key.getD 0 0#8 &&& ~~~7#8)) := ⟨_, rfl⟩
  have hk1l : k1.length = 32 := by rw [hk1, List.length_set, hk]
  have hcl : (clampL key).length = 32 := by rw [clampL_len, hk]
  have hc : clampL key = k1.set 31 ((k1.getD 31 0#8 &&& ~~~128#8) ||| 64#8) := by rw [hk1]; rfl
  refine Tr.enter Try.func19 rfl Try.ntmps19 rfl (Hp.refl w) ?_
  refine Tr.seq ?_
  refine Tr.region ?_
  refine Tr.op (W.box (cs := key.map U8) rfl rfl rfl fun g1 => ?_)
  refine Tr.op (W.alloc (cs := (List.replicate 32 0#8).map U8) Try.zeroValue23 rfl rfl fun g2 => ?_)
  refine Tr.lNil ?_
  refine Tr.thenN ?_
  refine Tr.seq ?_
  refine Tr.region ?_
  refine Tr.val (V.idxA (j := 0) (o' := 0) Try.runUnderlying23 Try.sizeOf5 rfl rfl rfl (by omega) rfl) rfl ?_
  refine Tr.val (V.load1 Try.isAgg5 rfl (V.cellB (by repeat (first | exact List.Mem.head _ | apply List.Mem.tail)) (getB key 0 (by omega)))) rfl ?_
  refine Tr.val (V.andNot8 (Y := 7#8) rfl rfl) rfl ?_
  refine Tr.val (V.idxA (j := 0) (o' := 0) Try.runUnderlying23 Try.sizeOf5 rfl rfl rfl (by omega) rfl) rfl ?_
  refine Tr.op (W.store1E (cs := key.map U8) (v := U8 (key.getD 0 0#8 &&& ~~~7#8)) (cs' := k1.map U8) Try.sizeOf5 rfl rfl rfl rfl (by rw [hk1, List.map_set]) (by repeat (first | exact Upd.head | apply Upd.tail)) (by rw [List.length_map]; omega) ?_)
  refine Tr.lNil ?_
  refine Tr.thenN ?_
  refine Tr.seq ?_
  refine Tr.region ?_
  refine Tr.val (V.idxA (j := 31) (o' := 31) Try.runUnderlying23 Try.sizeOf5 rfl rfl rfl (by omega) rfl) rfl ?_
  refine Tr.val (V.load1 Try.isAgg5 rfl (V.cellB (by repeat (first | exact List.Mem.head _ | apply List.Mem.tail)) (getB k1 31 (by omega)))) rfl ?_
  refine Tr.val (V.andNot8 (Y := 128#8) rfl rfl) rfl ?_
  refine Tr.val (V.or8 (Y := 64#8) rfl rfl) rfl ?_
  refine Tr.val (V.idxA (j := 31) (o' := 31) Try.runUnderlying23 Try.sizeOf5 rfl rfl rfl (by omega) rfl) rfl ?_
  refine Tr.op (W.store1E (cs := k1.map U8) (v := U8 ((k1.getD 31 0#8 &&& ~~~128#8) ||| 64#8)) (cs' := (clampL key).map U8) Try.sizeOf5 rfl rfl rfl rfl (by rw [hc, List.map_set]) (by repeat (first | exact Upd.head | apply Upd.tail)) (by rw [List.length_map]; omega) ?_)
  refine Tr.lNil ?_
  refine Tr.thenN ?_
  refine Tr.seq ?_
  refine Tr.region ?_
  refine Tr.val (V.loadN (cs := (clampL key).map U8) Try.isAgg23 (by rw [List.length_map, hcl]; exact Try.sizeOf23) rfl (V.cellsB (by repeat (first | exact List.Mem.head _ | apply List.Mem.tail)))) rfl ?_
  refine Tr.op (W.storeAll (vs := (clampL key).map U8) (cs := (List.replicate 32 0#8).map U8) Try.sizeOf23 rfl rfl (by rw [List.length_map, hcl]) rfl (one8 _) (by repeat (first | exact Upd.head | apply Upd.tail)) ?_)
  refine Tr.lNil ?_
  refine Tr.thenN ?_
  refine Tr.ret ?_
  refine Tr.out1 rfl (Res.cellN (cs := (clampL key).map U8) rfl Try.isAgg23 (by rw [List.length_map, hcl]; exact Try.sizeOf23) (by repeat (first | exact List.Mem.head _ | apply List.Mem.tail))) fun w hw => ?_
  exact ⟨rfl, hw.sub (List.nil_sublist _)⟩

end Go.Proofs.Ytgkndcincgpmdaa
