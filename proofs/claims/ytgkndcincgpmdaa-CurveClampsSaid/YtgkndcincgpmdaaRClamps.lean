/-
  hatchwaylaw08.CurveClamps returns true, whatever its arguments. (Printed by a program of this session over its walk printer.)
-/
import Derived.Test.YtgkndcincgpmdaaChecked
import Derived.Test.YtgkndcincgpmdaaRows
import Derived.Test.YtgkndcincgpmdaaLaw8
import Derived.Test.YtgkndcincgpmdaaPlainLaw8c
namespace Go.Proofs.Ytgkndcincgpmdaa
open Go.Sym Plain
set_option linter.unusedVariables false
set_option maxRecDepth 20000

theorem curveClamps_run (k u : List (BitVec 8)) (X : BitVec 8) (w : World) (hk : k.length = 32) (hu : u.length = 32) :
    Calls Try.prog 6 [.agg (k.map U8).toArray, .agg (u.map U8).toArray, U8 X].toArray w fun r w' => r = .returned (.bool true) ∧ Hp w [] [] w' := by
  obtain ⟨j1, hj1⟩ : ∃ j, j = jK1 k X := ⟨_, rfl⟩
  have hj1l : j1.length = 32 := by rw [hj1, jK1, List.length_set, hk]
  obtain ⟨j2, hj2⟩ : ∃ j, j = j1.set 31 (j1.getD 31 0#8 ^^^ (X &&& 192#8)) := ⟨_, rfl⟩
  have hj2l : j2.length = 32 := by rw [hj2, List.length_set, hj1l]
  obtain ⟨v, hv⟩ : ∃ v, v = vU u X := ⟨_, rfl⟩
  have hvl : v.length = 32 := by rw [hv, vU, List.length_set, hu]
  have hM : multL j2 v = multL k u := by rw [hj2, hj1, hv]; exact clamps_same k u X hk hu
  have hml : (multL k u).length = 32 := multL_len k u
  refine Tr.enter Try.func6 rfl Try.ntmps6 rfl (Hp.refl w) ?_
  refine Tr.seq ?_
  refine Tr.region ?_
  refine Tr.op (W.box (cs := k.map U8) rfl rfl rfl fun g3 => ?_)
  refine Tr.op (W.box (cs := u.map U8) rfl rfl rfl fun g4 => ?_)
  refine Tr.val (V.assign rfl) rfl ?_
  refine Tr.lNil ?_
  refine Tr.thenN ?_
  refine Tr.seq ?_
  refine Tr.region ?_
  refine Tr.op (W.call1 (args0) Try.call11 rfl (fun w1 _ => shown8_true w1) ?_)
  refine Tr.val (V.assign rfl) rfl ?_
  refine Tr.lNil ?_
  refine Tr.thenN ?_
  refine Tr.seq ?_
  refine Tr.region ?_
  refine Tr.val (V.loadN (cs := k.map U8) Try.isAgg23 (by rw [List.length_map, hk]; exact Try.sizeOf23) rfl (V.cellsB (by repeat (first | exact List.Mem.head _ | apply List.Mem.tail)))) rfl ?_
  refine Tr.op (W.alloc (cs := (List.replicate 32 0#8).map U8) Try.zeroValue23 rfl rfl fun g8 => ?_)
  refine Tr.op (W.storeAll (vs := k.map U8) (cs := (List.replicate 32 0#8).map U8) Try.sizeOf23 rfl rfl (by rw [List.length_map, hk]) rfl (one8 _) (by repeat (first | exact Upd.head | apply Upd.tail)) ?_)
  refine Tr.lNil ?_
  refine Tr.thenN ?_
  refine Tr.seq ?_
  refine Tr.region ?_
  refine Tr.val (V.idxA (j := 0) (o' := 0) Try.runUnderlying23 Try.sizeOf5 rfl rfl rfl (by omega) rfl) rfl ?_
  refine Tr.val (V.load1 Try.isAgg5 rfl (V.cellB (by repeat (first | exact List.Mem.head _ | apply List.Mem.tail)) (getB k 0 (by omega)))) rfl ?_
  refine Tr.val (V.move rfl) rfl ?_
  refine Tr.val (V.and8 (Y := 7#8) rfl rfl) rfl ?_
  refine Tr.val (V.xor8 rfl rfl) rfl ?_
  refine Tr.val (V.idxA (j := 0) (o' := 0) Try.runUnderlying23 Try.sizeOf5 rfl rfl rfl (by omega) rfl) rfl ?_
  refine Tr.op (W.store1E (cs := k.map U8) (v := U8 (k.getD 0 0#8 ^^^ (X &&& 7#8))) (cs' := j1.map U8) Try.sizeOf5 rfl rfl rfl rfl (by rw [hj1, jK1, List.map_set]) (by repeat (first | exact Upd.head | apply Upd.tail)) (by rw [List.length_map]; omega) ?_)
  refine Tr.lNil ?_
  refine Tr.thenN ?_
  refine Tr.seq ?_
  refine Tr.region ?_
  refine Tr.val (V.idxA (j := 31) (o' := 31) Try.runUnderlying23 Try.sizeOf5 rfl rfl rfl (by omega) rfl) rfl ?_
  refine Tr.val (V.load1 Try.isAgg5 rfl (V.cellB (by repeat (first | exact List.Mem.head _ | apply List.Mem.tail)) (getB j1 31 (by omega)))) rfl ?_
  refine Tr.val (V.move rfl) rfl ?_
  refine Tr.val (V.and8 (Y := 192#8) rfl rfl) rfl ?_
  refine Tr.val (V.xor8 rfl rfl) rfl ?_
  refine Tr.val (V.idxA (j := 31) (o' := 31) Try.runUnderlying23 Try.sizeOf5 rfl rfl rfl (by omega) rfl) rfl ?_
  refine Tr.op (W.store1E (cs := j1.map U8) (v := U8 (j1.getD 31 0#8 ^^^ (X &&& 192#8))) (cs' := j2.map U8) Try.sizeOf5 rfl rfl rfl rfl (by rw [hj2, List.map_set]) (by repeat (first | exact Upd.head | apply Upd.tail)) (by rw [List.length_map]; omega) ?_)
  refine Tr.lNil ?_
  refine Tr.thenN ?_
  refine Tr.seq ?_
  refine Tr.region ?_
  refine Tr.val (V.loadN (cs := u.map U8) Try.isAgg23 (by rw [List.length_map, hu]; exact Try.sizeOf23) rfl (V.cellsB (by repeat (first | exact List.Mem.head _ | apply List.Mem.tail)))) rfl ?_
  refine Tr.op (W.alloc (cs := (List.replicate 32 0#8).map U8) Try.zeroValue23 rfl rfl fun g9 => ?_)
  refine Tr.op (W.storeAll (vs := u.map U8) (cs := (List.replicate 32 0#8).map U8) Try.sizeOf23 rfl rfl (by rw [List.length_map, hu]) rfl (one8 _) (by repeat (first | exact Upd.head | apply Upd.tail)) ?_)
  refine Tr.lNil ?_
  refine Tr.thenN ?_
  refine Tr.seq ?_
  refine Tr.region ?_
  refine Tr.val (V.idxA (j := 31) (o' := 31) Try.runUnderlying23 Try.sizeOf5 rfl rfl rfl (by omega) rfl) rfl ?_
  refine Tr.val (V.load1 Try.isAgg5 rfl (V.cellB (by repeat (first | exact List.Mem.head _ | apply List.Mem.tail)) (getB u 31 (by omega)))) rfl ?_
  refine Tr.val (V.move rfl) rfl ?_
  refine Tr.val (V.and8 (Y := 128#8) rfl rfl) rfl ?_
  refine Tr.val (V.xor8 rfl rfl) rfl ?_
  refine Tr.val (V.idxA (j := 31) (o' := 31) Try.runUnderlying23 Try.sizeOf5 rfl rfl rfl (by omega) rfl) rfl ?_
  refine Tr.op (W.store1E (cs := u.map U8) (v := U8 (u.getD 31 0#8 ^^^ (X &&& 128#8))) (cs' := v.map U8) Try.sizeOf5 rfl rfl rfl rfl (by rw [hv, vU, List.map_set]) (by repeat (first | exact Upd.head | apply Upd.tail)) (by rw [List.length_map]; omega) ?_)
  refine Tr.lNil ?_
  refine Tr.thenN ?_
  refine Tr.seq ?_
  refine Tr.regionD [0, 1, 3, 3, 15, 3, 3, 127, 255, 511, 1023] [] (.pure 0 (.pure 1 (.soft 2 (.soft 3 (.soft 4 (.soft 5 (.soft 6 (.soft 7 (.pure 8 (.pure 9 (.pure 10 .done))))))))))) mixed (by kernel_rfl) ?_
  refine TrP.pure rfl (fun _ => V.move rfl) rfl ?_
  refine TrP.pure rfl (fun _ => V.move rfl) rfl ?_
  refine TrP.softG rfl rfl (V.loadN (cs := j2.map U8) Try.isAgg23 (by rw [List.length_map, hj2l]; exact Try.sizeOf23) rfl (V.cellsB (by repeat (first | exact List.Mem.head _ | apply List.Mem.tail)))) rfl ?_
  refine TrP.softG rfl rfl (V.loadN (cs := v.map U8) Try.isAgg23 (by rw [List.length_map, hvl]; exact Try.sizeOf23) rfl (V.cellsB (by repeat (first | exact List.Mem.head _ | apply List.Mem.tail)))) rfl ?_
  refine TrP.callG rfl rfl (args2 rfl rfl) Try.call12 rfl (fun w1 _ => by have h := mult_any j2 v w1 hj2l hvl; rw [hM] at h; exact h) ?_
  refine TrP.softG rfl rfl (V.loadN (cs := k.map U8) Try.isAgg23 (by rw [List.length_map, hk]; exact Try.sizeOf23) rfl (V.cellsB (by repeat (first | exact List.Mem.head _ | apply List.Mem.tail)))) rfl ?_
  refine TrP.softG rfl rfl (V.loadN (cs := u.map U8) Try.isAgg23 (by rw [List.length_map, hu]; exact Try.sizeOf23) rfl (V.cellsB (by repeat (first | exact List.Mem.head _ | apply List.Mem.tail)))) rfl ?_
  refine TrP.callG rfl rfl (args2 rfl rfl) Try.call12 rfl (fun w1 _ => mult_any k u w1 hk hu) ?_
  refine TrP.pureG rfl rfl (fun _ => V.eqlA (b := true) arr23 rfl rfl hml hml (decide_eq_true rfl)) rfl ?_
  refine TrP.pure rfl (fun _ => V.pick rfl rfl) rfl ?_
  refine TrP.pure rfl (fun _ => V.assign rfl) rfl ?_
  refine TrP.done ?_
  refine Tr.thenN ?_
  refine Tr.ret ?_
  refine Tr.out1 rfl (Res.tmp rfl) fun w hw => ?_
  exact ⟨rfl, hw.sub (List.nil_sublist _)⟩

theorem curveClamps_walk (x0 x1 : List (BitVec 8)) (a2 : Int) (w : World) (l0 : x0.length = 32) (l1 : x1.length = 32) (w2 : (Lit.int .u8 a2).wf = true) :
    Calls Try.prog 6 #[.agg (x0.map U8).toArray, .agg (x1.map U8).toArray, .int .u8 a2] w fun r w' => r = .returned (.bool true) ∧ Hp w [] [] w' := by
  obtain ⟨X, rfl⟩ := wf8 w2
  exact curveClamps_run x0 x1 X w l0 l1
namespace curveClamps
open Go.ChangeShapes Go.WideShapes Go.ChangeAt Go.RowKit Go.Sym
theorem own : ownKnob Try.prog.godebug = none := by kernel_rfl
theorem laidOut : laidOutB Try.prog = true := by kernel_rfl
set_option maxRecDepth 100000 in
theorem lifted (os : Os) (started : os.Started) (H : Type) (enc : TypeId × Value → H) :
    ReturnsInHanded {} Try.checked os 6 .any (Rows.curveClampsSpec.pre6 enc Try.prog Try.f6 Rows.curveClampsRow.domain false) (Rows.curveClampsSpec.post enc Try.prog Try.f6 false true false false) := by
  refine returnsInHanded_of_change (C := Try.checked) own started (by kernel_rfl) Try.func6
    (ChangeSpec.witness6 (enc := enc) (C := Try.checked) false ⟨#[], #[.agg #[.int .u8 0, .int .u8 0, .int .u8 0, .int .u8 0, .int .u8 0, .int .u8 0, .int .u8 0, .int .u8 0, .int .u8 0, .int .u8 0, .int .u8 0, .int .u8 0, .int .u8 0, .int .u8 0, .int .u8 0, .int .u8 0, .int .u8 0, .int .u8 0, .int .u8 0, .int .u8 0, .int .u8 0, .int .u8 0, .int .u8 0, .int .u8 0, .int .u8 0, .int .u8 0, .int .u8 0, .int .u8 0, .int .u8 0, .int .u8 0, .int .u8 0, .int .u8 0], .agg #[.int .u8 0, .int .u8 0, .int .u8 0, .int .u8 0, .int .u8 0, .int .u8 0, .int .u8 0, .int .u8 0, .int .u8 0, .int .u8 0, .int .u8 0, .int .u8 0, .int .u8 0, .int .u8 0, .int .u8 0, .int .u8 0, .int .u8 0, .int .u8 0, .int .u8 0, .int .u8 0, .int .u8 0, .int .u8 0, .int .u8 0, .int .u8 0, .int .u8 0, .int .u8 0, .int .u8 0, .int .u8 0, .int .u8 0, .int .u8 0, .int .u8 0, .int .u8 0], .int .u8 0], []⟩ 8 (by kernel_rfl) (by kernel_rfl) (by kernel_rfl) (by kernel_rfl)) ?_
  intro W base args ds gs before hval0 hW hcnd _
  have hval : ∀ (j : Nat) t v, Try.f6.params[j]? = some t → args[j]? = some v → Value.okWide Try.prog W .any base t v := hval0
  have hW' := hW
  obtain ⟨p, q, hA0, hV, rfl, hfz, hnd⟩ := hW
  have hA : DataW.TrodAll enc Try.prog W 0 (fun _ => true) true Try.f6.params.toList args.toList ds p := hA0
  rw [Try.params6] at hA hval
  obtain ⟨v0, vs0, d0, ds0, p0, q0, hargs, rfl, rfl, h0, r0⟩ := trodAll_cons hA
  obtain ⟨v1, vs1, d1, ds1, p1, q1, rfl, rfl, rfl, h1, r1⟩ := trodAll_cons r0
  obtain ⟨v2, vs2, d2, ds2, p2, q2, rfl, rfl, rfl, h2, r2⟩ := trodAll_cons r1
  obtain ⟨rfl, rfl, rfl⟩ := trodAll_nil r2
  obtain rfl : args = #[v0, v1, v2] := by cases args; simp_all
  obtain ⟨rfl, rfl⟩ := trodVars_none hV
  have k0 := h0
  have lt0 : ∀ x ∈ p0, x.block < W.heap.size := by obtain ⟨m, hm⟩ := k0; exact DataW.trod_lt m _ _ _ hm
  obtain ⟨x0, l0, rfl⟩ := open_bytesArr Try.underlying23 Try.underlying5 (by kernel_rfl) (by kernel_rfl) (hval 0 23 v0 rfl rfl) h0
  have k1 := h1
  have lt1 : ∀ x ∈ p1, x.block < W.heap.size := by obtain ⟨m, hm⟩ := k1; exact DataW.trod_lt m _ _ _ hm
  obtain ⟨x1, l1, rfl⟩ := open_bytesArr Try.underlying23 Try.underlying5 (by kernel_rfl) (by kernel_rfl) (hval 1 23 v1 rfl rfl) h1
  obtain ⟨a2, rfl, rfl, rfl, w2⟩ := open_int Try.underlying5 (hval 2 5 v2 rfl rfl) h2
  clear hA0 hval0
  refine (curveClamps_walk x0 x1 a2 W l0 l1 w2).mono fun e W' ⟨he, hp⟩ => ?_
  have bel : Below W.heap.size W W' := hp.below
  subst he
  exact ⟨_, rfl, _, _, _, [], _, [], hW', trodAll_mk1 (shut_bool Try.underlying4 _), (trodAll_cons_mk (Below.trod laidOut (by kernel_rfl) (of_decide_eq_true (by kernel_rfl)) k0 bel lt0) (trodAll_cons_mk (Below.trod laidOut (by kernel_rfl) (of_decide_eq_true (by kernel_rfl)) k1 bel lt1) (trodAll_cons_mk (shut_int Try.underlying5 w2) trodAll_mk0))), rfl, bel.frame _, fun h => by cases h⟩
theorem over : Rows.curveClampsRow.holds Try.pinned (OpenSpec.ofChange Rows.curveClampsSpec) :=
  OpenClaim.holds_of_wide 6 Try.f6 rfl rfl rfl rfl rfl rfl rfl ⟨rfl, rfl, rfl, rfl, rfl⟩ rfl rfl rfl rfl rfl (by kernel_rfl) Try.func6 (by kernel_rfl)
    (of_decide_eq_true (by kernel_rfl)) (by unfold Func.isWrapper; first | (rw [if_pos (by decide +kernel)]; kernel_rfl) | (rw [if_neg (by decide +kernel)]; exact ⟨rfl, rfl⟩))
    (fun os started H enc _ => lifted os started H enc)
end curveClamps
/-- The statement. -/
theorem curveClampsProved : Rows.CurveClampsSaid := curveClamps.over
end Go.Proofs.Ytgkndcincgpmdaa
