/-
  Contracts of package curve: Mult, Public, Shared. (Printed by a program of this session over its walk printer.)
-/
import Derived.Test.YtgkndcincgpmdaaCurveA
import Derived.Test.YtgkndcincgpmdaaSymO
import Derived.Test.YtgkndcincgpmdaaSymJ
namespace Go.Proofs.Ytgkndcincgpmdaa
open Go.Sym Plain
set_option linter.unusedVariables false
set_option maxRecDepth 20000

set_option maxHeartbeats 1000000 in
theorem mult_any (kb ub : List (BitVec 8)) (w : World) (hk : kb.length = 32) (hu : ub.length = 32) : Calls Try.prog 12 [.agg (kb.map U8).toArray, .agg (ub.map U8).toArray].toArray w fun r w' => r = .returned (.agg ((multL kb ub).map U8).toArray) ∧ Hp w [] [] w' := by
  obtain ⟨kc, hkc⟩ : ∃ k, k = clampL kb := ⟨_, rfl⟩
  have hkcl : kc.length = 32 := by rw [hkc, clampL_len, hk]
  have hok : ∀ j, (ladP kc (fromL ub) j).1.ok ∧ (ladP kc (fromL ub) j).2.ok := fun j => ladP_ok kc (fromL ub) (fromL_len ub) j
  have hml : (multL kb ub).length = 32 := multL_len kb ub
  refine Tr.enter Try.func12 rfl Try.ntmps12 rfl (Hp.refl w) ?_
  refine Tr.seq ?_
  refine Tr.region ?_
  refine Tr.op (W.box (cs := kb.map U8) rfl rfl rfl fun g2 => ?_)
  refine Tr.op (W.box (cs := ub.map U8) rfl rfl rfl fun g3 => ?_)
  refine Tr.op (W.alloc (cs := (List.replicate 32 0#8).map U8) Try.zeroValue23 rfl rfl fun g4 => ?_)
  refine Tr.lNil ?_
  refine Tr.thenN ?_
  refine Tr.seq ?_
  refine Tr.region ?_
  refine Tr.val (V.loadN (cs := kb.map U8) Try.isAgg23 (by rw [List.length_map, hk]; exact Try.sizeOf23) rfl (V.cellsB (by repeat (first | exact List.Mem.head _ | apply List.Mem.tail)))) rfl ?_
  refine Tr.op (W.call1 (args1 rfl) Try.call19 rfl (fun w1 _ => by have h := clamped_any kb w1 hk; rw [← hkc] at h; exact h) ?_)
  refine Tr.op (W.storeAll (vs := kc.map U8) (cs := kb.map U8) Try.sizeOf23 rfl rfl (by rw [List.length_map, hkcl]) (by rw [List.length_map, hk]) (one8 _) (by repeat (first | exact Upd.head | apply Upd.tail)) ?_)
  refine Tr.lNil ?_
  refine Tr.thenN ?_
  refine Tr.seq ?_
  refine Tr.region ?_
  refine Tr.val (V.loadN (cs := ub.map U8) Try.isAgg23 (by rw [List.length_map, hu]; exact Try.sizeOf23) rfl (V.cellsB (by repeat (first | exact List.Mem.head _ | apply List.Mem.tail)))) rfl ?_
  refine Tr.op (W.call1 (args1 rfl) Try.call17 rfl (fun w1 _ => from_any ub w1 hu) ?_)
  refine Tr.op (W.alloc (cs := [0#64, 0#64, 0#64, 0#64, 0#64].map U64) Try.zeroValue41 rfl rfl fun g5 => ?_)
  refine Tr.op (W.storeAll (vs := (fromL ub).map U64) (cs := [0#64, 0#64, 0#64, 0#64, 0#64].map U64) Try.sizeOf41 rfl rfl (by rw [List.length_map, fromL_len]) rfl (one64 _) (by repeat (first | exact Upd.head | apply Upd.tail)) ?_)
  refine Tr.lNil ?_
  refine Tr.thenN ?_
  refine Tr.seq ?_
  refine Tr.regionD [0, 1, 0, 1, 13, 0, 0, 107, 255] [8] (.soft 0 (.pure 1 (.soft 3 (.soft 2 (.pure 4 (.two 5 (.hard 6 (.hard 7 (.hard 8 .done))) 6 (.hard 5 (.hard 7 (.hard 8 .done))))))))) mixed (by kernel_rfl) ?_
  refine TrP.call rfl (vs := [U32 1#32]) (args1 rfl) Try.call20 rfl (fun w1 _ => small_any 1#32 w1) ?_
  refine TrP.pure rfl (fun _ => (V.buildS (vs := [(0, .agg ((smallL 1#32).map U64).toArray)]) (pl := #[(0, 5), (5, 5)]) (cs := ((smallL 1#32).map U64 ++ (List.replicate 5 0#64).map U64).toArray) Try.runUnderlying47 Try.zeroValue47 (fun w => by simp [Try.sizeOf41]) (fun a he => by simp [he.eval (x := .tmp 14) (v := .agg ((smallL 1#32).map U64).toArray) rfl]) (fill_one rfl rfl (by decide)))) rfl ?_
  refine TrP.call rfl (vs := [U32 1#32]) (args1 rfl) Try.call20 rfl (fun w1 _ => small_any 1#32 w1) ?_
  refine TrP.soft rfl (V.loadN (cs := (fromL ub).map U64) Try.isAgg41 (by rw [List.length_map, fromL_len]; exact Try.sizeOf41) rfl (V.cellsB (by repeat (first | exact List.Mem.head _ | apply List.Mem.tail)))) rfl ?_
  refine TrP.pure rfl (fun _ => (V.buildS (vs := [(0, .agg ((fromL ub).map U64).toArray), (1, .agg ((smallL 1#32).map U64).toArray)]) (pl := #[(0, 5), (5, 5)]) (cs := ((fromL ub).map U64 ++ (smallL 1#32).map U64).toArray) Try.runUnderlying47 Try.zeroValue47 (fun w => by simp [Try.sizeOf41]) (fun a he => by simp [he.eval (x := .tmp 16) (v := .agg ((fromL ub).map U64).toArray) rfl, he.eval (x := .tmp 17) (v := .agg ((smallL 1#32).map U64).toArray) rfl]) (fill_two rfl rfl (by rw [List.length_map, fromL_len]) (by rw [List.length_map, show (smallL 1#32).length = 5 from rfl]) rfl))) rfl ?_
  refine TrP.two rfl rfl ?_ ?_
  · refine W.alloc (cs := (List.replicate 10 0#64).map U64) Try.zeroValue47 rfl rfl fun g6 => ?_
    refine Tr.toF (G := fun c : {c : List Value // c.length = 10} => ⟨g6, 47, c.1⟩ :: [⟨g5, 41, (fromL ub).map U64⟩, ⟨g4, 23, (List.replicate 32 0#8).map U8⟩, ⟨g3, 23, ub.map U8⟩, ⟨g2, 23, kc.map U8⟩]) ⟨(List.replicate 10 0#64).map U64, by simp⟩ (fun _ => List.sublist_cons_self _ _) ?_
    refine TrF.hard rfl (fun c => W.alloc (cs := (List.replicate 10 0#64).map U64) Try.zeroValue47 rfl rfl fun g7 => ?_)
    refine Tr.onF (G := fun c : {c : List Value // c.length = 10} => ⟨g7, 47, (List.replicate 10 0#64).map U64⟩ :: ⟨g6, 47, c.1⟩ :: [⟨g5, 41, (fromL ub).map U64⟩, ⟨g4, 23, (List.replicate 32 0#8).map U8⟩, ⟨g3, 23, ub.map U8⟩, ⟨g2, 23, kc.map U8⟩]) c (fun c => ⟨c, List.sublist_cons_self _ _⟩) ?_
    refine TrF.hard rfl (fun c => W.storeAll (vs := ((smallL 1#32).map U64 ++ (List.replicate 5 0#64).map U64)) (cs := c.1) Try.sizeOf47 rfl rfl (by simp [smallL]) c.2 (one2 _ _) (by repeat (first | exact Upd.head | apply Upd.tail)) ?_)
    refine Tr.unF (⟨((smallL 1#32).map U64 ++ (List.replicate 5 0#64).map U64), (by simp [smallL])⟩ : {c : List Value // c.length = 10}) (List.Sublist.refl _) ?_
    refine TrP.hard rfl (W.storeAll (vs := ((fromL ub).map U64 ++ (smallL 1#32).map U64)) (cs := (List.replicate 10 0#64).map U64) Try.sizeOf47 rfl rfl (by rw [List.length_append, List.length_map, List.length_map, fromL_len]; rfl) (by simp) (one2 _ _) (by repeat (first | exact Upd.head | apply Upd.tail)) ?_)
    refine Tr.pTail rfl ?_
    refine TrP.done ?_
    refine Tr.thenN ?_
    refine Tr.seq ?_
    refine Tr.seq ?_
    refine Tr.region ?_
    refine Tr.val (V.assign rfl) rfl ?_
    refine Tr.lNil ?_
    refine Tr.thenN ?_
    refine Tr.block ?_
    refine Tr.loop (ι := Nat) (fun j => j ≤ 255) (fun j => [(2, .pointer (some ⟨g2, 0, none⟩)), (4, .pointer (some ⟨g4, 0, none⟩)), (5, .pointer (some ⟨g5, 0, none⟩)), (6, .pointer (some ⟨g6, 0, none⟩)), (7, .pointer (some ⟨g7, 0, none⟩)), (8, .int .i64 (254 - (j : Int)))]) (fun j => [⟨g7, 47, (ladP kc (fromL ub) j).2.cs⟩, ⟨g6, 47, (ladP kc (fromL ub) j).1.cs⟩, ⟨g5, 41, (fromL ub).map U64⟩, ⟨g4, 23, (List.replicate 32 0#8).map U8⟩, ⟨g2, 23, kc.map U8⟩]) (fun j => 255 - j) 0 (Nat.zero_le _) (lk_cons rfl (lk_cons rfl (lk_cons rfl (lk_cons rfl (lk_cons rfl (lk_cons rfl (lk_nil _))))))) (.cons_cons _ (.cons_cons _ (.cons_cons _ (.cons_cons _ (.cons _ (.cons_cons _ (List.nil_sublist _))))))) fun j hI => ?_
    refine Tr.seq ?_
    refine Tr.seq ?_
    refine Tr.region ?_
    refine Tr.val (V.move rfl) rfl ?_
    refine Tr.val (V.geq rfl rfl rfl) rfl ?_
    refine Tr.lNil ?_
    refine Tr.thenN ?_
    refine Tr.cond rfl (fun hT0 => ?_) (fun hF0 => ?_)
    · simp only [decide_eq_true_eq] at hT0
      obtain ⟨s, hs⟩ : ∃ s : Nat, 254 - (j : Int) = (s : Int) := ⟨(254 - (j : Int)).toNat, by omega⟩
      obtain ⟨u0, hu0⟩ : ∃ u, u = fromL ub := ⟨_, rfl⟩
      have hu0l : u0.length = 5 := by rw [hu0, fromL_len]
      rw [hs]
      have hs8 : s / 8 < 32 := by omega
      have hlad : ladP kc (fromL ub) (j + 1) = stepP u0 (bitK kc s) (ladP kc (fromL ub) j) := by rw [ladP, ← hu0, show 254 - j = s by omega]
      obtain ⟨st, hst⟩ : ∃ st, st = (ladP kc (fromL ub) j) := ⟨_, rfl⟩
      have hsto := hok j
      rw [← hst] at hsto hlad ⊢
      obtain ⟨s1, hs1⟩ : ∃ s1, s1 = swapP (bitK kc s) st.1 st.2 := ⟨_, rfl⟩
      have hs1o : s1.1.ok ∧ s1.2.ok := by rw [hs1]; exact swapP_ok _ hsto.1 hsto.2
      obtain ⟨d1, hd1⟩ : ∃ d, d = dblP s1.1 := ⟨_, rfl⟩
      have hd1o : d1.ok := by rw [hd1]; exact dblP_ok _
      obtain ⟨a1, ha1⟩ : ∃ d, d = addP u0 s1.1 s1.2 := ⟨_, rfl⟩
      have ha1o : a1.ok := by rw [ha1]; exact addP_ok _ _ _
      obtain ⟨s3, hs3⟩ : ∃ s3, s3 = swapP (bitK kc s) d1 a1 := ⟨_, rfl⟩
      have hs3o : s3.1.ok ∧ s3.2.ok := by rw [hs3]; exact swapP_ok _ hd1o ha1o
      have hl3 : ladP kc (fromL ub) (j + 1) = s3 := by rw [hlad, hs3, hd1, ha1, hs1]; rfl
      rw [← hu0] at hl3 ⊢
      refine Tr.skip ?_
      refine Tr.thenN ?_
      refine Tr.seq ?_
      refine Tr.block ?_
      refine Tr.seq ?_
      refine Tr.region ?_
      refine Tr.val (V.move rfl) rfl ?_
      refine Tr.val (V.quoN (b := 8) rfl rfl (by omega) (by omega)) rfl ?_
      refine Tr.val (V.idxA (j := (s / 8)) (o' := (s / 8)) Try.runUnderlying23 Try.sizeOf5 rfl rfl (by omega) (by omega) (by omega)) rfl ?_
      refine Tr.val (V.load1 Try.isAgg5 rfl (V.cellB (by repeat (first | exact List.Mem.head _ | apply List.Mem.tail)) (getB kc (s / 8) (by omega)))) rfl ?_
      refine Tr.val (V.move rfl) rfl ?_
      refine Tr.val (V.remN (b := 8) rfl rfl (by omega)) rfl ?_
      refine Tr.val (V.shr8 (s := s % 8) rfl rfl) rfl ?_
      refine Tr.val (V.and8 (Y := 1#8) rfl rfl) rfl ?_
      refine Tr.val (V.eql8 (Y := 1#8) (b := bitK kc s) rfl rfl rfl) rfl ?_
      refine Tr.val (V.assign rfl) rfl ?_
      refine Tr.lNil ?_
      refine Tr.thenN ?_
      refine Tr.seq ?_
      refine Tr.region ?_
      refine Tr.val (V.move rfl) rfl ?_
      refine Tr.val (V.loadN (cs := st.1.cs) Try.isAgg47 (by rw [Pt.len hsto.1]; exact Try.sizeOf47) rfl (V.cellsB (by repeat (first | exact List.Mem.head _ | apply List.Mem.tail)))) rfl ?_
      refine Tr.val (V.loadN (cs := st.2.cs) Try.isAgg47 (by rw [Pt.len hsto.2]; exact Try.sizeOf47) rfl (V.cellsB (by repeat (first | exact List.Mem.head _ | apply List.Mem.tail)))) rfl ?_
      refine Tr.op (W.call1 (args3 rfl rfl rfl) Try.call21 rfl (fun w1 _ => by have h := pswap_any (bitK kc s) st.1 st.2 w1 hsto.1 hsto.2; rw [← hs1] at h; exact h) ?_)
      refine Tr.val (V.move rfl) rfl ?_
      refine Tr.val (V.extract rfl rfl) rfl ?_
      refine Tr.val (V.extract rfl rfl) rfl ?_
      refine Tr.op (W.storeAll (vs := s1.1.cs) (cs := st.1.cs) Try.sizeOf47 rfl rfl (Pt.len hs1o.1) (Pt.len hsto.1) (Pt.one _) (by repeat (first | exact Upd.head | apply Upd.tail)) ?_)
      refine Tr.op (W.storeAll (vs := s1.2.cs) (cs := st.2.cs) Try.sizeOf47 rfl rfl (Pt.len hs1o.2) (Pt.len hsto.2) (Pt.one _) (by repeat (first | exact Upd.head | apply Upd.tail)) ?_)
      refine Tr.lNil ?_
      refine Tr.thenN ?_
      refine Tr.seq ?_
      refine Tr.region ?_
      refine Tr.val (V.loadN (cs := u0.map U64) Try.isAgg41 (by rw [List.length_map, hu0l]; exact Try.sizeOf41) rfl (V.cellsB (by repeat (first | exact List.Mem.head _ | apply List.Mem.tail)))) rfl ?_
      refine Tr.val (V.loadN (cs := s1.1.cs) Try.isAgg47 (by rw [Pt.len hs1o.1]; exact Try.sizeOf47) rfl (V.cellsB (by repeat (first | exact List.Mem.head _ | apply List.Mem.tail)))) rfl ?_
      refine Tr.val (V.loadN (cs := s1.2.cs) Try.isAgg47 (by rw [Pt.len hs1o.2]; exact Try.sizeOf47) rfl (V.cellsB (by repeat (first | exact List.Mem.head _ | apply List.Mem.tail)))) rfl ?_
      refine Tr.op (W.call1 (args3 rfl rfl rfl) Try.call22 rfl (fun w1 _ => by have h := pstep_any u0 s1.1 s1.2 w1 hu0l hs1o.1 hs1o.2; rw [← hd1, ← ha1] at h; exact h) ?_)
      refine Tr.val (V.move rfl) rfl ?_
      refine Tr.val (V.extract rfl rfl) rfl ?_
      refine Tr.val (V.extract rfl rfl) rfl ?_
      refine Tr.op (W.storeAll (vs := d1.cs) (cs := s1.1.cs) Try.sizeOf47 rfl rfl (Pt.len hd1o) (Pt.len hs1o.1) (Pt.one _) (by repeat (first | exact Upd.head | apply Upd.tail)) ?_)
      refine Tr.op (W.storeAll (vs := a1.cs) (cs := s1.2.cs) Try.sizeOf47 rfl rfl (Pt.len ha1o) (Pt.len hs1o.2) (Pt.one _) (by repeat (first | exact Upd.head | apply Upd.tail)) ?_)
      refine Tr.lNil ?_
      refine Tr.thenN ?_
      refine Tr.region ?_
      refine Tr.val (V.move rfl) rfl ?_
      refine Tr.val (V.loadN (cs := d1.cs) Try.isAgg47 (by rw [Pt.len hd1o]; exact Try.sizeOf47) rfl (V.cellsB (by repeat (first | exact List.Mem.head _ | apply List.Mem.tail)))) rfl ?_
      refine Tr.val (V.loadN (cs := a1.cs) Try.isAgg47 (by rw [Pt.len ha1o]; exact Try.sizeOf47) rfl (V.cellsB (by repeat (first | exact List.Mem.head _ | apply List.Mem.tail)))) rfl ?_
      refine Tr.op (W.call1 (args3 rfl rfl rfl) Try.call21 rfl (fun w1 _ => by have h := pswap_any (bitK kc s) d1 a1 w1 hd1o ha1o; rw [← hs3] at h; exact h) ?_)
      refine Tr.val (V.move rfl) rfl ?_
      refine Tr.val (V.extract rfl rfl) rfl ?_
      refine Tr.val (V.extract rfl rfl) rfl ?_
      refine Tr.op (W.storeAll (vs := s3.1.cs) (cs := d1.cs) Try.sizeOf47 rfl rfl (Pt.len hs3o.1) (Pt.len hd1o) (Pt.one _) (by repeat (first | exact Upd.head | apply Upd.tail)) ?_)
      refine Tr.op (W.storeAll (vs := s3.2.cs) (cs := a1.cs) Try.sizeOf47 rfl rfl (Pt.len hs3o.2) (Pt.len ha1o) (Pt.one _) (by repeat (first | exact Upd.head | apply Upd.tail)) ?_)
      refine Tr.lNil ?_
      refine Tr.inN ?_
      refine Tr.thenN ?_
      refine Tr.region ?_
      refine Tr.val (V.move rfl) rfl ?_
      refine Tr.val (V.sub rfl rfl (by omega)) rfl ?_
      refine Tr.val (V.assign rfl) rfl ?_
      refine Tr.lNil ?_
      exact Tr.again (j + 1) (by omega) (by omega) (lk_cons rfl (lk_cons rfl (lk_cons rfl (lk_cons rfl (lk_cons rfl (lk_cons (congrArg some (congrArg (Value.int .i64) (by omega))) (lk_nil _))))))) (by simp only [hl3]; exact List.Sublist.refl _)
    · simp only [decide_eq_false_iff_not] at hF0
      obtain rfl : j = 255 := by omega
      obtain ⟨pp, hpp⟩ : ∃ p, p = (ladP kc (fromL ub) 255).1 := ⟨_, rfl⟩
      have hppo : pp.ok := by rw [hpp]; exact (hok 255).1
      have hM : bytesL (mulL pp.x (invL pp.z)) = multL kb ub := by rw [hpp, hkc]; rfl
      rw [← hpp]
      refine Tr.exit ?_
      refine Tr.thenX ?_
      refine Tr.thenX ?_
      refine Tr.inHit ?_
      refine Tr.thenN ?_
      refine Tr.seq ?_
      refine Tr.regionD [0, 1, 0, 4, 12, 31, 63, 127] [7] (.pure 0 (.soft 1 (.pure 2 (.soft 3 (.soft 4 (.soft 5 (.soft 6 (.hard 7 .done)))))))) mixed (by kernel_rfl) ?_
      refine TrP.pure rfl (fun _ => V.fieldS (o' := 0) Try.runUnderlying47 rfl rfl Try.sizeOf41 (by omega) rfl) rfl ?_
      refine TrP.soft rfl (V.loadN (cs := pp.x.map U64) Try.isAgg41 (by rw [List.length_map, hppo.1]; exact Try.sizeOf41) rfl (V.cellsO (pre := []) (post := pp.z.map U64) (by repeat (first | exact List.Mem.head _ | apply List.Mem.tail)) rfl rfl)) rfl ?_
      refine TrP.pure rfl (fun _ => V.fieldS (o' := 5) Try.runUnderlying47 rfl rfl Try.sizeOf41 (by omega) rfl) rfl ?_
      refine TrP.soft rfl (V.loadN (cs := pp.z.map U64) Try.isAgg41 (by rw [List.length_map, hppo.2]; exact Try.sizeOf41) rfl (V.cellsO (pre := pp.x.map U64) (post := []) (by repeat (first | exact List.Mem.head _ | apply List.Mem.tail)) (List.append_nil _).symm (by rw [List.length_map, hppo.1]))) rfl ?_
      refine TrP.call rfl (args1 rfl) Try.call24 rfl (fun w1 _ => einv_any pp.z w1 hppo.2) ?_
      refine TrP.call rfl (args2 rfl rfl) Try.call23 rfl (fun w1 _ => emul_any pp.x (invL pp.z) w1 hppo.1 (mulL_len _ _)) ?_
      refine TrP.call rfl (args1 rfl) Try.call18 rfl (fun w1 _ => by have h := ebytes_any (mulL pp.x (invL pp.z)) w1 (mulL_len _ _); rw [hM] at h; exact h) ?_
      refine TrP.hard rfl (W.storeAll (vs := (multL kb ub).map U8) (cs := (List.replicate 32 0#8).map U8) Try.sizeOf23 rfl rfl (by rw [List.length_map, hml]) rfl (one8 _) (by repeat (first | exact Upd.head | apply Upd.tail)) ?_)
      refine Tr.pTail rfl ?_
      refine TrP.done ?_
      refine Tr.thenN ?_
      refine Tr.ret ?_
      refine Tr.out1 rfl (Res.cellN (cs := (multL kb ub).map U8) rfl Try.isAgg23 (by rw [List.length_map, hml]; exact Try.sizeOf23) (by repeat (first | exact List.Mem.head _ | apply List.Mem.tail))) fun w hw => ?_
      exact ⟨rfl, hw.sub (List.nil_sublist _)⟩
  · refine W.alloc (cs := (List.replicate 10 0#64).map U64) Try.zeroValue47 rfl rfl fun g7 => ?_
    refine Tr.pOn (List.sublist_cons_self _ _) ?_
    refine TrP.hard rfl (W.alloc (cs := (List.replicate 10 0#64).map U64) Try.zeroValue47 rfl rfl fun g6 => ?_)
    refine Tr.toF (G := fun c : {c : List Value // c.length = 10} => ⟨g6, 47, c.1⟩ :: ⟨g7, 47, (List.replicate 10 0#64).map U64⟩ :: [⟨g5, 41, (fromL ub).map U64⟩, ⟨g4, 23, (List.replicate 32 0#8).map U8⟩, ⟨g3, 23, ub.map U8⟩, ⟨g2, 23, kc.map U8⟩]) ⟨(List.replicate 10 0#64).map U64, by simp⟩ (fun _ => List.sublist_cons_self _ _) ?_
    refine TrF.hard rfl (fun c => W.storeAll (vs := ((smallL 1#32).map U64 ++ (List.replicate 5 0#64).map U64)) (cs := c.1) Try.sizeOf47 rfl rfl (by simp [smallL]) c.2 (one2 _ _) (by repeat (first | exact Upd.head | apply Upd.tail)) ?_)
    refine Tr.unF (⟨((smallL 1#32).map U64 ++ (List.replicate 5 0#64).map U64), (by simp [smallL])⟩ : {c : List Value // c.length = 10}) (List.Sublist.refl _) ?_
    refine TrP.hard rfl (W.storeAll (vs := ((fromL ub).map U64 ++ (smallL 1#32).map U64)) (cs := (List.replicate 10 0#64).map U64) Try.sizeOf47 rfl rfl (by rw [List.length_append, List.length_map, List.length_map, fromL_len]; rfl) (by simp) (one2 _ _) (by repeat (first | exact Upd.head | apply Upd.tail)) ?_)
    refine Tr.pTail rfl ?_
    refine TrP.done ?_
    refine Tr.permL (List.Perm.swap _ _ _) ?_
    refine Tr.thenN ?_
    refine Tr.seq ?_
    refine Tr.seq ?_
    refine Tr.region ?_
    refine Tr.val (V.assign rfl) rfl ?_
    refine Tr.lNil ?_
    refine Tr.thenN ?_
    refine Tr.block ?_
    refine Tr.loop (ι := Nat) (fun j => j ≤ 255) (fun j => [(2, .pointer (some ⟨g2, 0, none⟩)), (4, .pointer (some ⟨g4, 0, none⟩)), (5, .pointer (some ⟨g5, 0, none⟩)), (6, .pointer (some ⟨g6, 0, none⟩)), (7, .pointer (some ⟨g7, 0, none⟩)), (8, .int .i64 (254 - (j : Int)))]) (fun j => [⟨g7, 47, (ladP kc (fromL ub) j).2.cs⟩, ⟨g6, 47, (ladP kc (fromL ub) j).1.cs⟩, ⟨g5, 41, (fromL ub).map U64⟩, ⟨g4, 23, (List.replicate 32 0#8).map U8⟩, ⟨g2, 23, kc.map U8⟩]) (fun j => 255 - j) 0 (Nat.zero_le _) (lk_cons rfl (lk_cons rfl (lk_cons rfl (lk_cons rfl (lk_cons rfl (lk_cons rfl (lk_nil _))))))) (.cons_cons _ (.cons_cons _ (.cons_cons _ (.cons_cons _ (.cons _ (.cons_cons _ (List.nil_sublist _))))))) fun j hI => ?_
    refine Tr.seq ?_
    refine Tr.seq ?_
    refine Tr.region ?_
    refine Tr.val (V.move rfl) rfl ?_
    refine Tr.val (V.geq rfl rfl rfl) rfl ?_
    refine Tr.lNil ?_
    refine Tr.thenN ?_
    refine Tr.cond rfl (fun hT0 => ?_) (fun hF0 => ?_)
    · simp only [decide_eq_true_eq] at hT0
      obtain ⟨s, hs⟩ : ∃ s : Nat, 254 - (j : Int) = (s : Int) := ⟨(254 - (j : Int)).toNat, by omega⟩
      obtain ⟨u0, hu0⟩ : ∃ u, u = fromL ub := ⟨_, rfl⟩
      have hu0l : u0.length = 5 := by rw [hu0, fromL_len]
      rw [hs]
      have hs8 : s / 8 < 32 := by omega
      have hlad : ladP kc (fromL ub) (j + 1) = stepP u0 (bitK kc s) (ladP kc (fromL ub) j) := by rw [ladP, ← hu0, show 254 - j = s by omega]
      obtain ⟨st, hst⟩ : ∃ st, st = (ladP kc (fromL ub) j) := ⟨_, rfl⟩
      have hsto := hok j
      rw [← hst] at hsto hlad ⊢
      obtain ⟨s1, hs1⟩ : ∃ s1, s1 = swapP (bitK kc s) st.1 st.2 := ⟨_, rfl⟩
      have hs1o : s1.1.ok ∧ s1.2.ok := by rw [hs1]; exact swapP_ok _ hsto.1 hsto.2
      obtain ⟨d1, hd1⟩ : ∃ d, d = dblP s1.1 := ⟨_, rfl⟩
      have hd1o : d1.ok := by rw [hd1]; exact dblP_ok _
      obtain ⟨a1, ha1⟩ : ∃ d, d = addP u0 s1.1 s1.2 := ⟨_, rfl⟩
      have ha1o : a1.ok := by rw [ha1]; exact addP_ok _ _ _
      obtain ⟨s3, hs3⟩ : ∃ s3, s3 = swapP (bitK kc s) d1 a1 := ⟨_, rfl⟩
      have hs3o : s3.1.ok ∧ s3.2.ok := by rw [hs3]; exact swapP_ok _ hd1o ha1o
      have hl3 : ladP kc (fromL ub) (j + 1) = s3 := by rw [hlad, hs3, hd1, ha1, hs1]; rfl
      rw [← hu0] at hl3 ⊢
      refine Tr.skip ?_
      refine Tr.thenN ?_
      refine Tr.seq ?_
      refine Tr.block ?_
      refine Tr.seq ?_
      refine Tr.region ?_
      refine Tr.val (V.move rfl) rfl ?_
      refine Tr.val (V.quoN (b := 8) rfl rfl (by omega) (by omega)) rfl ?_
      refine Tr.val (V.idxA (j := (s / 8)) (o' := (s / 8)) Try.runUnderlying23 Try.sizeOf5 rfl rfl (by omega) (by omega) (by omega)) rfl ?_
      refine Tr.val (V.load1 Try.isAgg5 rfl (V.cellB (by repeat (first | exact List.Mem.head _ | apply List.Mem.tail)) (getB kc (s / 8) (by omega)))) rfl ?_
      refine Tr.val (V.move rfl) rfl ?_
      refine Tr.val (V.remN (b := 8) rfl rfl (by omega)) rfl ?_
      refine Tr.val (V.shr8 (s := s % 8) rfl rfl) rfl ?_
      refine Tr.val (V.and8 (Y := 1#8) rfl rfl) rfl ?_
      refine Tr.val (V.eql8 (Y := 1#8) (b := bitK kc s) rfl rfl rfl) rfl ?_
      refine Tr.val (V.assign rfl) rfl ?_
      refine Tr.lNil ?_
      refine Tr.thenN ?_
      refine Tr.seq ?_
      refine Tr.region ?_
      refine Tr.val (V.move rfl) rfl ?_
      refine Tr.val (V.loadN (cs := st.1.cs) Try.isAgg47 (by rw [Pt.len hsto.1]; exact Try.sizeOf47) rfl (V.cellsB (by repeat (first | exact List.Mem.head _ | apply List.Mem.tail)))) rfl ?_
      refine Tr.val (V.loadN (cs := st.2.cs) Try.isAgg47 (by rw [Pt.len hsto.2]; exact Try.sizeOf47) rfl (V.cellsB (by repeat (first | exact List.Mem.head _ | apply List.Mem.tail)))) rfl ?_
      refine Tr.op (W.call1 (args3 rfl rfl rfl) Try.call21 rfl (fun w1 _ => by have h := pswap_any (bitK kc s) st.1 st.2 w1 hsto.1 hsto.2; rw [← hs1] at h; exact h) ?_)
      refine Tr.val (V.move rfl) rfl ?_
      refine Tr.val (V.extract rfl rfl) rfl ?_
      refine Tr.val (V.extract rfl rfl) rfl ?_
      refine Tr.op (W.storeAll (vs := s1.1.cs) (cs := st.1.cs) Try.sizeOf47 rfl rfl (Pt.len hs1o.1) (Pt.len hsto.1) (Pt.one _) (by repeat (first | exact Upd.head | apply Upd.tail)) ?_)
      refine Tr.op (W.storeAll (vs := s1.2.cs) (cs := st.2.cs) Try.sizeOf47 rfl rfl (Pt.len hs1o.2) (Pt.len hsto.2) (Pt.one _) (by repeat (first | exact Upd.head | apply Upd.tail)) ?_)
      refine Tr.lNil ?_
      refine Tr.thenN ?_
      refine Tr.seq ?_
      refine Tr.region ?_
      refine Tr.val (V.loadN (cs := u0.map U64) Try.isAgg41 (by rw [List.length_map, hu0l]; exact Try.sizeOf41) rfl (V.cellsB (by repeat (first | exact List.Mem.head _ | apply List.Mem.tail)))) rfl ?_
      refine Tr.val (V.loadN (cs := s1.1.cs) Try.isAgg47 (by rw [Pt.len hs1o.1]; exact Try.sizeOf47) rfl (V.cellsB (by repeat (first | exact List.Mem.head _ | apply List.Mem.tail)))) rfl ?_
      refine Tr.val (V.loadN (cs := s1.2.cs) Try.isAgg47 (by rw [Pt.len hs1o.2]; exact Try.sizeOf47) rfl (V.cellsB (by repeat (first | exact List.Mem.head _ | apply List.Mem.tail)))) rfl ?_
      refine Tr.op (W.call1 (args3 rfl rfl rfl) Try.call22 rfl (fun w1 _ => by have h := pstep_any u0 s1.1 s1.2 w1 hu0l hs1o.1 hs1o.2; rw [← hd1, ← ha1] at h; exact h) ?_)
      refine Tr.val (V.move rfl) rfl ?_
      refine Tr.val (V.extract rfl rfl) rfl ?_
      refine Tr.val (V.extract rfl rfl) rfl ?_
      refine Tr.op (W.storeAll (vs := d1.cs) (cs := s1.1.cs) Try.sizeOf47 rfl rfl (Pt.len hd1o) (Pt.len hs1o.1) (Pt.one _) (by repeat (first | exact Upd.head | apply Upd.tail)) ?_)
      refine Tr.op (W.storeAll (vs := a1.cs) (cs := s1.2.cs) Try.sizeOf47 rfl rfl (Pt.len ha1o) (Pt.len hs1o.2) (Pt.one _) (by repeat (first | exact Upd.head | apply Upd.tail)) ?_)
      refine Tr.lNil ?_
      refine Tr.thenN ?_
      refine Tr.region ?_
      refine Tr.val (V.move rfl) rfl ?_
      refine Tr.val (V.loadN (cs := d1.cs) Try.isAgg47 (by rw [Pt.len hd1o]; exact Try.sizeOf47) rfl (V.cellsB (by repeat (first | exact List.Mem.head _ | apply List.Mem.tail)))) rfl ?_
      refine Tr.val (V.loadN (cs := a1.cs) Try.isAgg47 (by rw [Pt.len ha1o]; exact Try.sizeOf47) rfl (V.cellsB (by repeat (first | exact List.Mem.head _ | apply List.Mem.tail)))) rfl ?_
      refine Tr.op (W.call1 (args3 rfl rfl rfl) Try.call21 rfl (fun w1 _ => by have h := pswap_any (bitK kc s) d1 a1 w1 hd1o ha1o; rw [← hs3] at h; exact h) ?_)
      refine Tr.val (V.move rfl) rfl ?_
      refine Tr.val (V.extract rfl rfl) rfl ?_
      refine Tr.val (V.extract rfl rfl) rfl ?_
      refine Tr.op (W.storeAll (vs := s3.1.cs) (cs := d1.cs) Try.sizeOf47 rfl rfl (Pt.len hs3o.1) (Pt.len hd1o) (Pt.one _) (by repeat (first | exact Upd.head | apply Upd.tail)) ?_)
      refine Tr.op (W.storeAll (vs := s3.2.cs) (cs := a1.cs) Try.sizeOf47 rfl rfl (Pt.len hs3o.2) (Pt.len ha1o) (Pt.one _) (by repeat (first | exact Upd.head | apply Upd.tail)) ?_)
      refine Tr.lNil ?_
      refine Tr.inN ?_
      refine Tr.thenN ?_
      refine Tr.region ?_
      refine Tr.val (V.move rfl) rfl ?_
      refine Tr.val (V.sub rfl rfl (by omega)) rfl ?_
      refine Tr.val (V.assign rfl) rfl ?_
      refine Tr.lNil ?_
      exact Tr.again (j + 1) (by omega) (by omega) (lk_cons rfl (lk_cons rfl (lk_cons rfl (lk_cons rfl (lk_cons rfl (lk_cons (congrArg some (congrArg (Value.int .i64) (by omega))) (lk_nil _))))))) (by simp only [hl3]; exact List.Sublist.refl _)
    · simp only [decide_eq_false_iff_not] at hF0
      obtain rfl : j = 255 := by omega
      obtain ⟨pp, hpp⟩ : ∃ p, p = (ladP kc (fromL ub) 255).1 := ⟨_, rfl⟩
      have hppo : pp.ok := by rw [hpp]; exact (hok 255).1
      have hM : bytesL (mulL pp.x (invL pp.z)) = multL kb ub := by rw [hpp, hkc]; rfl
      rw [← hpp]
      refine Tr.exit ?_
      refine Tr.thenX ?_
      refine Tr.thenX ?_
      refine Tr.inHit ?_
      refine Tr.thenN ?_
      refine Tr.seq ?_
      refine Tr.regionD [0, 1, 0, 4, 12, 31, 63, 127] [7] (.pure 0 (.soft 1 (.pure 2 (.soft 3 (.soft 4 (.soft 5 (.soft 6 (.hard 7 .done)))))))) mixed (by kernel_rfl) ?_
      refine TrP.pure rfl (fun _ => V.fieldS (o' := 0) Try.runUnderlying47 rfl rfl Try.sizeOf41 (by omega) rfl) rfl ?_
      refine TrP.soft rfl (V.loadN (cs := pp.x.map U64) Try.isAgg41 (by rw [List.length_map, hppo.1]; exact Try.sizeOf41) rfl (V.cellsO (pre := []) (post := pp.z.map U64) (by repeat (first | exact List.Mem.head _ | apply List.Mem.tail)) rfl rfl)) rfl ?_
      refine TrP.pure rfl (fun _ => V.fieldS (o' := 5) Try.runUnderlying47 rfl rfl Try.sizeOf41 (by omega) rfl) rfl ?_
      refine TrP.soft rfl (V.loadN (cs := pp.z.map U64) Try.isAgg41 (by rw [List.length_map, hppo.2]; exact Try.sizeOf41) rfl (V.cellsO (pre := pp.x.map U64) (post := []) (by repeat (first | exact List.Mem.head _ | apply List.Mem.tail)) (List.append_nil _).symm (by rw [List.length_map, hppo.1]))) rfl ?_
      refine TrP.call rfl (args1 rfl) Try.call24 rfl (fun w1 _ => einv_any pp.z w1 hppo.2) ?_
      refine TrP.call rfl (args2 rfl rfl) Try.call23 rfl (fun w1 _ => emul_any pp.x (invL pp.z) w1 hppo.1 (mulL_len _ _)) ?_
      refine TrP.call rfl (args1 rfl) Try.call18 rfl (fun w1 _ => by have h := ebytes_any (mulL pp.x (invL pp.z)) w1 (mulL_len _ _); rw [hM] at h; exact h) ?_
      refine TrP.hard rfl (W.storeAll (vs := (multL kb ub).map U8) (cs := (List.replicate 32 0#8).map U8) Try.sizeOf23 rfl rfl (by rw [List.length_map, hml]) rfl (one8 _) (by repeat (first | exact Upd.head | apply Upd.tail)) ?_)
      refine Tr.pTail rfl ?_
      refine TrP.done ?_
      refine Tr.thenN ?_
      refine Tr.ret ?_
      refine Tr.out1 rfl (Res.cellN (cs := (multL kb ub).map U8) rfl Try.isAgg23 (by rw [List.length_map, hml]; exact Try.sizeOf23) (by repeat (first | exact List.Mem.head _ | apply List.Mem.tail))) fun w hw => ?_
      exact ⟨rfl, hw.sub (List.nil_sublist _)⟩

end Go.Proofs.Ytgkndcincgpmdaa
