/-
  hatchwaylaw08.CurveThree returns true, whatever its arguments. (Printed by a program of this session over its walk printer.)
-/
import Derived.Test.YtgkndcincgpmdaaChecked
import Derived.Test.YtgkndcincgpmdaaRows
import Derived.Test.YtgkndcincgpmdaaLaw8
import Derived.Test.YtgkndcincgpmdaaPlainAgr
namespace Go.Proofs.Ytgkndcincgpmdaa
open Go.Sym Plain
set_option linter.unusedVariables false
set_option maxRecDepth 20000

theorem curveThree_run (a b c : List (BitVec 8)) (w : World) (ha : a.length = 32) (hb : b.length = 32) (hc : c.length = 32) :
    Calls Try.prog 10 [.agg (a.map U8).toArray, .agg (b.map U8).toArray, .agg (c.map U8).toArray].toArray w fun r w' => r = .returned (.bool true) ∧ Hp w [] [] w' := by
  obtain ⟨pa, hpa⟩ : ∃ x, x = multL a nineK := ⟨_, rfl⟩
  have hpal : pa.length = 32 := by rw [hpa]; exact multL_len a nineK
  obtain ⟨pb, hpb⟩ : ∃ x, x = multL b nineK := ⟨_, rfl⟩
  have hpbl : pb.length = 32 := by rw [hpb]; exact multL_len b nineK
  obtain ⟨pc, hpc⟩ : ∃ x, x = multL c nineK := ⟨_, rfl⟩
  have hpcl : pc.length = 32 := by rw [hpc]; exact multL_len c nineK
  obtain ⟨qa, hqa⟩ : ∃ x, x = multL b pc := ⟨_, rfl⟩
  have hqal : qa.length = 32 := by rw [hqa]; exact multL_len b pc
  obtain ⟨qb, hqb⟩ : ∃ x, x = multL a pb := ⟨_, rfl⟩
  have hqbl : qb.length = 32 := by rw [hqb]; exact multL_len a pb
  obtain ⟨qc, hqc⟩ : ∃ x, x = multL c pa := ⟨_, rfl⟩
  have hqcl : qc.length = 32 := by rw [hqc]; exact multL_len c pa
  obtain ⟨X, hX⟩ : ∃ x, x = multL a qa := ⟨_, rfl⟩
  have hXl : X.length = 32 := by rw [hX]; exact multL_len a qa
  have hX2 : multL c qb = X := by
    rw [hX, hqa, hqb, multL_order c a pb hc ha hpbl, hpb, hpc, multL_order c b nineK hc hb rfl]
  have hX3 : multL b qc = X := by
    rw [hX, hqa, hqc, hpa, hpc, multL_order c a nineK hc ha rfl, ← hpc, multL_order b a pc hb ha hpcl]
  have hXZ : ¬ X = zeroK := by rw [hX, hqa, hpc]; exact three_ne a b c ha hb hc
  refine Tr.enter Try.func10 rfl Try.ntmps10 rfl (Hp.refl w) ?_
  refine Tr.seq ?_
  refine Tr.region ?_
  refine Tr.op (W.box (cs := a.map U8) rfl rfl rfl fun g3 => ?_)
  refine Tr.op (W.box (cs := b.map U8) rfl rfl rfl fun g4 => ?_)
  refine Tr.op (W.box (cs := c.map U8) rfl rfl rfl fun g5 => ?_)
  refine Tr.val (V.assign rfl) rfl ?_
  refine Tr.lNil ?_
  refine Tr.thenN ?_
  refine Tr.seq ?_
  refine Tr.region ?_
  refine Tr.op (W.call1 (args0) Try.call11 rfl (fun w1 _ => shown8_true w1) ?_)
  refine Tr.val (V.assign rfl) rfl ?_
  refine Tr.lNil ?_
  refine Tr.thenN ?_
  refine Tr.seq ?_
  refine Tr.regionD [0, 0, 0, 4, 14, 31, 0, 127] [7] (.soft 0 (.soft 1 (.soft 2 (.soft 3 (.soft 4 (.soft 5 (.hard 6 (.hard 7 .done)))))))) mixed (by kernel_rfl) ?_
  refine TrP.soft rfl (V.loadN (cs := a.map U8) Try.isAgg23 (by rw [List.length_map, ha]; exact Try.sizeOf23) rfl (V.cellsB (by repeat (first | exact List.Mem.head _ | apply List.Mem.tail)))) rfl ?_
  refine TrP.soft rfl (V.loadN (cs := b.map U8) Try.isAgg23 (by rw [List.length_map, hb]; exact Try.sizeOf23) rfl (V.cellsB (by repeat (first | exact List.Mem.head _ | apply List.Mem.tail)))) rfl ?_
  refine TrP.soft rfl (V.loadN (cs := c.map U8) Try.isAgg23 (by rw [List.length_map, hc]; exact Try.sizeOf23) rfl (V.cellsB (by repeat (first | exact List.Mem.head _ | apply List.Mem.tail)))) rfl ?_
  refine TrP.call rfl (args1 rfl) Try.call15 rfl (fun w1 _ => by have h := public_any c w1 hc; rw [← hpc] at h; exact h) ?_
  refine TrP.call rfl (args2 rfl rfl) Try.call12 rfl (fun w1 _ => by have h := mult_any b pc w1 hb hpcl; rw [← hqa] at h; exact h) ?_
  refine TrP.call rfl (args2 rfl rfl) Try.call12 rfl (fun w1 _ => by have h := mult_any a qa w1 ha hqal; rw [← hX] at h; exact h) ?_
  refine TrP.hard rfl (W.alloc (cs := (List.replicate 32 0#8).map U8) Try.zeroValue23 rfl rfl fun g8 => ?_)
  refine Tr.pOn (by first | exact List.Sublist.refl _ | exact List.sublist_cons_self _ _ | exact List.sublist_append_right _ _ | simp) ?_
  refine TrP.hard rfl (W.storeAll (vs := X.map U8) (cs := (List.replicate 32 0#8).map U8) Try.sizeOf23 rfl rfl (by rw [List.length_map, hXl]) rfl (one8 _) (by repeat (first | exact Upd.head | apply Upd.tail)) ?_)
  refine Tr.pTail rfl ?_
  refine TrP.done ?_
  refine Tr.thenN ?_
  refine Tr.seq ?_
  refine Tr.regionD [0, 0, 0, 4, 14, 31, 0, 127] [7] (.soft 0 (.soft 1 (.soft 2 (.soft 3 (.soft 4 (.soft 5 (.hard 6 (.hard 7 .done)))))))) mixed (by kernel_rfl) ?_
  refine TrP.soft rfl (V.loadN (cs := c.map U8) Try.isAgg23 (by rw [List.length_map, hc]; exact Try.sizeOf23) rfl (V.cellsB (by repeat (first | exact List.Mem.head _ | apply List.Mem.tail)))) rfl ?_
  refine TrP.soft rfl (V.loadN (cs := a.map U8) Try.isAgg23 (by rw [List.length_map, ha]; exact Try.sizeOf23) rfl (V.cellsB (by repeat (first | exact List.Mem.head _ | apply List.Mem.tail)))) rfl ?_
  refine TrP.soft rfl (V.loadN (cs := b.map U8) Try.isAgg23 (by rw [List.length_map, hb]; exact Try.sizeOf23) rfl (V.cellsB (by repeat (first | exact List.Mem.head _ | apply List.Mem.tail)))) rfl ?_
  refine TrP.call rfl (args1 rfl) Try.call15 rfl (fun w1 _ => by have h := public_any b w1 hb; rw [← hpb] at h; exact h) ?_
  refine TrP.call rfl (args2 rfl rfl) Try.call12 rfl (fun w1 _ => by have h := mult_any a pb w1 ha hpbl; rw [← hqb] at h; exact h) ?_
  refine TrP.call rfl (args2 rfl rfl) Try.call12 rfl (fun w1 _ => by have h := mult_any c qb w1 hc hqbl; rw [hX2] at h; exact h) ?_
  refine TrP.hard rfl (W.alloc (cs := (List.replicate 32 0#8).map U8) Try.zeroValue23 rfl rfl fun g9 => ?_)
  refine Tr.pOn (by first | exact List.Sublist.refl _ | exact List.sublist_cons_self _ _ | exact List.sublist_append_right _ _ | simp) ?_
  refine TrP.hard rfl (W.storeAll (vs := X.map U8) (cs := (List.replicate 32 0#8).map U8) Try.sizeOf23 rfl rfl (by rw [List.length_map, hXl]) rfl (one8 _) (by repeat (first | exact Upd.head | apply Upd.tail)) ?_)
  refine Tr.pTail rfl ?_
  refine TrP.done ?_
  refine Tr.thenN ?_
  refine Tr.seq ?_
  refine Tr.regionD [0, 0, 0, 4, 14, 31, 0, 127] [7] (.soft 0 (.soft 1 (.soft 2 (.soft 3 (.soft 4 (.soft 5 (.hard 6 (.hard 7 .done)))))))) mixed (by kernel_rfl) ?_
  refine TrP.soft rfl (V.loadN (cs := b.map U8) Try.isAgg23 (by rw [List.length_map, hb]; exact Try.sizeOf23) rfl (V.cellsB (by repeat (first | exact List.Mem.head _ | apply List.Mem.tail)))) rfl ?_
  refine TrP.soft rfl (V.loadN (cs := c.map U8) Try.isAgg23 (by rw [List.length_map, hc]; exact Try.sizeOf23) rfl (V.cellsB (by repeat (first | exact List.Mem.head _ | apply List.Mem.tail)))) rfl ?_
  refine TrP.soft rfl (V.loadN (cs := a.map U8) Try.isAgg23 (by rw [List.length_map, ha]; exact Try.sizeOf23) rfl (V.cellsB (by repeat (first | exact List.Mem.head _ | apply List.Mem.tail)))) rfl ?_
  refine TrP.call rfl (args1 rfl) Try.call15 rfl (fun w1 _ => by have h := public_any a w1 ha; rw [← hpa] at h; exact h) ?_
  refine TrP.call rfl (args2 rfl rfl) Try.call12 rfl (fun w1 _ => by have h := mult_any c pa w1 hc hpal; rw [← hqc] at h; exact h) ?_
  refine TrP.call rfl (args2 rfl rfl) Try.call12 rfl (fun w1 _ => by have h := mult_any b qc w1 hb hqcl; rw [hX3] at h; exact h) ?_
  refine TrP.hard rfl (W.alloc (cs := (List.replicate 32 0#8).map U8) Try.zeroValue23 rfl rfl fun g10 => ?_)
  refine Tr.pOn (by first | exact List.Sublist.refl _ | exact List.sublist_cons_self _ _ | exact List.sublist_append_right _ _ | simp) ?_
  refine TrP.hard rfl (W.storeAll (vs := X.map U8) (cs := (List.replicate 32 0#8).map U8) Try.sizeOf23 rfl rfl (by rw [List.length_map, hXl]) rfl (one8 _) (by repeat (first | exact Upd.head | apply Upd.tail)) ?_)
  refine Tr.pTail rfl ?_
  refine TrP.done ?_
  refine Tr.thenN ?_
  refine Tr.seq ?_
  refine Tr.region ?_
  refine Tr.val (V.move rfl) rfl ?_
  refine Tr.val (V.move rfl) rfl ?_
  refine Tr.valG rfl (V.loadN (cs := X.map U8) Try.isAgg23 (by rw [List.length_map, hXl]; exact Try.sizeOf23) rfl (V.cellsB (by repeat (first | exact List.Mem.head _ | apply List.Mem.tail)))) rfl ?_
  refine Tr.valG rfl (V.loadN (cs := X.map U8) Try.isAgg23 (by rw [List.length_map, hXl]; exact Try.sizeOf23) rfl (V.cellsB (by repeat (first | exact List.Mem.head _ | apply List.Mem.tail)))) rfl ?_
  refine Tr.valG rfl (V.eqlA (b := true) arr23 rfl rfl hXl hXl (decide_eq_true rfl)) rfl ?_
  refine Tr.val (V.pick rfl rfl) rfl ?_
  refine Tr.val (V.move rfl) rfl ?_
  refine Tr.valG rfl (V.loadN (cs := X.map U8) Try.isAgg23 (by rw [List.length_map, hXl]; exact Try.sizeOf23) rfl (V.cellsB (by repeat (first | exact List.Mem.head _ | apply List.Mem.tail)))) rfl ?_
  refine Tr.valG rfl (V.loadN (cs := X.map U8) Try.isAgg23 (by rw [List.length_map, hXl]; exact Try.sizeOf23) rfl (V.cellsB (by repeat (first | exact List.Mem.head _ | apply List.Mem.tail)))) rfl ?_
  refine Tr.valG rfl (V.eqlA (b := true) arr23 rfl rfl hXl hXl (decide_eq_true rfl)) rfl ?_
  refine Tr.val (V.pick rfl rfl) rfl ?_
  refine Tr.val (V.move rfl) rfl ?_
  refine Tr.valG rfl (V.loadN (cs := X.map U8) Try.isAgg23 (by rw [List.length_map, hXl]; exact Try.sizeOf23) rfl (V.cellsB (by repeat (first | exact List.Mem.head _ | apply List.Mem.tail)))) rfl ?_
  refine Tr.valG rfl ((V.buildA (vs := []) (cs := (zeroK.map U8).toArray) Try.runUnderlying23 Try.sizeOf5 Try.zeroValue23 (fun a he => by simp [Act.eval]) rfl)) rfl ?_
  refine Tr.valG rfl (V.neqA (b := true) arr23 rfl rfl hXl rfl (by simpa using hXZ)) rfl ?_
  refine Tr.val (V.pick rfl rfl) rfl ?_
  refine Tr.val (V.assign rfl) rfl ?_
  refine Tr.lNil ?_
  refine Tr.thenN ?_
  refine Tr.ret ?_
  refine Tr.out1 rfl (Res.tmp rfl) fun w hw => ?_
  exact ⟨rfl, hw.sub (List.nil_sublist _)⟩

theorem curveThree_walk (x0 x1 x2 : List (BitVec 8)) (w : World) (l0 : x0.length = 32) (l1 : x1.length = 32) (l2 : x2.length = 32) :
    Calls Try.prog 10 #[.agg (x0.map U8).toArray, .agg (x1.map U8).toArray, .agg (x2.map U8).toArray] w fun r w' => r = .returned (.bool true) ∧ Hp w [] [] w' := curveThree_run x0 x1 x2 w l0 l1 l2
namespace curveThree
open Go.ChangeShapes Go.WideShapes Go.ChangeAt Go.RowKit Go.Sym
theorem own : ownKnob Try.prog.godebug = none := by kernel_rfl
theorem laidOut : laidOutB Try.prog = true := by kernel_rfl
set_option maxRecDepth 100000 in
theorem lifted (os : Os) (started : os.Started) (H : Type) (enc : TypeId × Value → H) :
    ReturnsInHanded {} Try.checked os 10 .any (Rows.curveThreeSpec.pre6 enc Try.prog Try.f10 Rows.curveThreeRow.domain false) (Rows.curveThreeSpec.post enc Try.prog Try.f10 false true false false) := by
  refine returnsInHanded_of_change (C := Try.checked) own started (by kernel_rfl) Try.func10
    (ChangeSpec.witness6 (enc := enc) (C := Try.checked) false ⟨#[], #[.agg #[.int .u8 0, .int .u8 0, .int .u8 0, .int .u8 0, .int .u8 0, .int .u8 0, .int .u8 0, .int .u8 0, .int .u8 0, .int .u8 0, .int .u8 0, .int .u8 0, .int .u8 0, .int .u8 0, .int .u8 0, .int .u8 0, .int .u8 0, .int .u8 0, .int .u8 0, .int .u8 0, .int .u8 0, .int .u8 0, .int .u8 0, .int .u8 0, .int .u8 0, .int .u8 0, .int .u8 0, .int .u8 0, .int .u8 0, .int .u8 0, .int .u8 0, .int .u8 0], .agg #[.int .u8 0, .int .u8 0, .int .u8 0, .int .u8 0, .int .u8 0, .int .u8 0, .int .u8 0, .int .u8 0, .int .u8 0, .int .u8 0, .int .u8 0, .int .u8 0, .int .u8 0, .int .u8 0, .int .u8 0, .int .u8 0, .int .u8 0, .int .u8 0, .int .u8 0, .int .u8 0, .int .u8 0, .int .u8 0, .int .u8 0, .int .u8 0, .int .u8 0, .int .u8 0, .int .u8 0, .int .u8 0, .int .u8 0, .int .u8 0, .int .u8 0, .int .u8 0], .agg #[.int .u8 0, .int .u8 0, .int .u8 0, .int .u8 0, .int .u8 0, .int .u8 0, .int .u8 0, .int .u8 0, .int .u8 0, .int .u8 0, .int .u8 0, .int .u8 0, .int .u8 0, .int .u8 0, .int .u8 0, .int .u8 0, .int .u8 0, .int .u8 0, .int .u8 0, .int .u8 0, .int .u8 0, .int .u8 0, .int .u8 0, .int .u8 0, .int .u8 0, .int .u8 0, .int .u8 0, .int .u8 0, .int .u8 0, .int .u8 0, .int .u8 0, .int .u8 0]], []⟩ 8 (by kernel_rfl) (by kernel_rfl) (by kernel_rfl) (by kernel_rfl)) ?_
  intro W base args ds gs before hval0 hW hcnd _
  have hval : ∀ (j : Nat) t v, Try.f10.params[j]? = some t → args[j]? = some v → Value.okWide Try.prog W .any base t v := hval0
  have hW' := hW
  obtain ⟨p, q, hA0, hV, rfl, hfz, hnd⟩ := hW
  have hA : DataW.TrodAll enc Try.prog W 0 (fun _ => true) true Try.f10.params.toList args.toList ds p := hA0
  rw [Try.params10] at hA hval
  obtain ⟨v0, vs0, d0, ds0, p0, q0, hargs, rfl, rfl, h0, r0⟩ := trodAll_cons hA
  obtain ⟨v1, vs1, d1, ds1, p1, q1, rfl, rfl, rfl, h1, r1⟩ := trodAll_cons r0
  obtain ⟨v2, vs2, d2, ds2, p2, q2, rfl, rfl, rfl, h2, r2⟩ := trodAll_cons r1
  obtain ⟨rfl, rfl, rfl⟩ := trodAll_nil r2
  obtain rfl : args = #[v0, v1, v2] := by cases args; simp_all
  obtain ⟨rfl, rfl⟩ := trodVars_none hV
  have k0 := h0
  have lt0 : ∀ x ∈ p0, x.block < W.heap.size := by obtain ⟨m, hm⟩ := k0; exact DataW.trod_lt m _ _ _ hm
  obtain ⟨x0, l0, rfl⟩ := open_bytesArr Try.underlying23 Try.underlying5 (by kernel_rfl) (by kernel_rfl) (hval 0 23 v0 rfl rfl) h0
  have k1 := h1
  have lt1 : ∀ x ∈ p1, x.block < W.heap.size := by obtain ⟨m, hm⟩ := k1; exact DataW.trod_lt m _ _ _ hm
  obtain ⟨x1, l1, rfl⟩ := open_bytesArr Try.underlying23 Try.underlying5 (by kernel_rfl) (by kernel_rfl) (hval 1 23 v1 rfl rfl) h1
  have k2 := h2
  have lt2 : ∀ x ∈ p2, x.block < W.heap.size := by obtain ⟨m, hm⟩ := k2; exact DataW.trod_lt m _ _ _ hm
  obtain ⟨x2, l2, rfl⟩ := open_bytesArr Try.underlying23 Try.underlying5 (by kernel_rfl) (by kernel_rfl) (hval 2 23 v2 rfl rfl) h2
  clear hA0 hval0
  refine (curveThree_walk x0 x1 x2 W l0 l1 l2).mono fun e W' ⟨he, hp⟩ => ?_
  have bel : Below W.heap.size W W' := hp.below
  subst he
  exact ⟨_, rfl, _, _, _, [], _, [], hW', trodAll_mk1 (shut_bool Try.underlying4 _), (trodAll_cons_mk (Below.trod laidOut (by kernel_rfl) (of_decide_eq_true (by kernel_rfl)) k0 bel lt0) (trodAll_cons_mk (Below.trod laidOut (by kernel_rfl) (of_decide_eq_true (by kernel_rfl)) k1 bel lt1) (trodAll_cons_mk (Below.trod laidOut (by kernel_rfl) (of_decide_eq_true (by kernel_rfl)) k2 bel lt2) trodAll_mk0))), rfl, bel.frame _, fun h => by cases h⟩
theorem over : Rows.curveThreeRow.holds Try.pinned (OpenSpec.ofChange Rows.curveThreeSpec) :=
  OpenClaim.holds_of_wide 10 Try.f10 rfl rfl rfl rfl rfl rfl rfl ⟨rfl, rfl, rfl, rfl, rfl⟩ rfl rfl rfl rfl rfl (by kernel_rfl) Try.func10 (by kernel_rfl)
    (of_decide_eq_true (by kernel_rfl)) (by unfold Func.isWrapper; first | (rw [if_pos (by decide +kernel)]; kernel_rfl) | (rw [if_neg (by decide +kernel)]; exact ⟨rfl, rfl⟩))
    (fun os started H enc _ => lifted os started H enc)
end curveThree
/-- The statement. -/
theorem curveThreeProved : Rows.CurveThreeSaid := curveThree.over
end Go.Proofs.Ytgkndcincgpmdaa
