/-
  hatchwaylaw08.CurveOrder returns true, whatever its arguments. (Printed by a program of this session over its walk printer.)
-/
import Derived.Test.YtgkndcincgpmdaaChecked
import Derived.Test.YtgkndcincgpmdaaRows
import Derived.Test.YtgkndcincgpmdaaLaw8
import Derived.Test.YtgkndcincgpmdaaPlainAgr
namespace Go.Proofs.Ytgkndcincgpmdaa
open Go.Sym Plain
set_option linter.unusedVariables false
set_option maxRecDepth 20000

theorem curveOrder_run (a b u : List (BitVec 8)) (w : World) (ha : a.length = 32) (hb : b.length = 32) (hu : u.length = 32) :
    Calls Try.prog 7 [.agg (a.map U8).toArray, .agg (b.map U8).toArray, .agg (u.map U8).toArray].toArray w fun r w' => r = .returned (.bool true) ∧ Hp w [] [] w' := by
  obtain ⟨A, hA⟩ : ∃ x, x = multL a u := ⟨_, rfl⟩
  have hAl : A.length = 32 := by rw [hA]; exact multL_len a u
  obtain ⟨D, hD⟩ : ∃ x, x = multL b u := ⟨_, rfl⟩
  have hDl : D.length = 32 := by rw [hD]; exact multL_len b u
  obtain ⟨X, hX⟩ : ∃ x, x = multL a D := ⟨_, rfl⟩
  have hXl : X.length = 32 := by rw [hX]; exact multL_len a D
  have hX2 : multL b A = X := by rw [hX, hA, hD]; exact multL_order b a u hb ha hu
  refine Tr.enter Try.func7 rfl Try.ntmps7 rfl (Hp.refl w) ?_
  refine Tr.seq ?_
  refine Tr.region ?_
  refine Tr.op (W.box (cs := a.map U8) rfl rfl rfl fun g3 => ?_)
  refine Tr.op (W.box (cs := b.map U8) rfl rfl rfl fun g4 => ?_)
  refine Tr.op (W.box (cs := u.map U8) rfl rfl rfl fun g5 => ?_)
  refine Tr.val (V.assign rfl) rfl ?_
  refine Tr.lNil ?_
  refine Tr.thenN ?_
  refine Tr.seq ?_
  refine Tr.region ?_
  refine Tr.op (W.call1 (args0) Try.call11 rfl (fun w1 _ => shown8_true w1) ?_)
  refine Tr.val (V.assign rfl) rfl ?_
  refine Tr.lNil ?_
  refine Tr.thenN ?_
  refine Tr.seq ?_
  refine Tr.regionD [0, 1, 3, 3, 3, 27, 63, 3, 3, 3, 895, 2047, 4095, 8191, 16383] [] (.pure 0 (.pure 1 (.soft 2 (.soft 3 (.soft 4 (.soft 5 (.soft 6 (.soft 7 (.soft 8 (.soft 9 (.soft 10 (.soft 11 (.pure 12 (.pure 13 (.pure 14 .done))))))))))))))) mixed (by kernel_rfl) ?_
  refine TrP.pure rfl (fun _ => V.move rfl) rfl ?_
  refine TrP.pure rfl (fun _ => V.move rfl) rfl ?_
  refine TrP.softG rfl rfl (V.loadN (cs := a.map U8) Try.isAgg23 (by rw [List.length_map, ha]; exact Try.sizeOf23) rfl (V.cellsB (by repeat (first | exact List.Mem.head _ | apply List.Mem.tail)))) rfl ?_
  refine TrP.softG rfl rfl (V.loadN (cs := b.map U8) Try.isAgg23 (by rw [List.length_map, hb]; exact Try.sizeOf23) rfl (V.cellsB (by repeat (first | exact List.Mem.head _ | apply List.Mem.tail)))) rfl ?_
  refine TrP.softG rfl rfl (V.loadN (cs := u.map U8) Try.isAgg23 (by rw [List.length_map, hu]; exact Try.sizeOf23) rfl (V.cellsB (by repeat (first | exact List.Mem.head _ | apply List.Mem.tail)))) rfl ?_
  refine TrP.callG rfl rfl (args2 rfl rfl) Try.call12 rfl (fun w1 _ => by have h := mult_any b u w1 hb hu; rw [← hD] at h; exact h) ?_
  refine TrP.callG rfl rfl (args2 rfl rfl) Try.call12 rfl (fun w1 _ => by have h := mult_any a D w1 ha hDl; rw [← hX] at h; exact h) ?_
  refine TrP.softG rfl rfl (V.loadN (cs := b.map U8) Try.isAgg23 (by rw [List.length_map, hb]; exact Try.sizeOf23) rfl (V.cellsB (by repeat (first | exact List.Mem.head _ | apply List.Mem.tail)))) rfl ?_
  refine TrP.softG rfl rfl (V.loadN (cs := a.map U8) Try.isAgg23 (by rw [List.length_map, ha]; exact Try.sizeOf23) rfl (V.cellsB (by repeat (first | exact List.Mem.head _ | apply List.Mem.tail)))) rfl ?_
  refine TrP.softG rfl rfl (V.loadN (cs := u.map U8) Try.isAgg23 (by rw [List.length_map, hu]; exact Try.sizeOf23) rfl (V.cellsB (by repeat (first | exact List.Mem.head _ | apply List.Mem.tail)))) rfl ?_
  refine TrP.callG rfl rfl (args2 rfl rfl) Try.call12 rfl (fun w1 _ => by have h := mult_any a u w1 ha hu; rw [← hA] at h; exact h) ?_
  refine TrP.callG rfl rfl (args2 rfl rfl) Try.call12 rfl (fun w1 _ => by have h := mult_any b A w1 hb hAl; rw [hX2] at h; exact h) ?_
  refine TrP.pureG rfl rfl (fun _ => V.eqlA (b := true) arr23 rfl rfl hXl hXl (decide_eq_true rfl)) rfl ?_
  refine TrP.pure rfl (fun _ => V.pick rfl rfl) rfl ?_
  refine TrP.pure rfl (fun _ => V.assign rfl) rfl ?_
  refine TrP.done ?_
  refine Tr.thenN ?_
  refine Tr.ret ?_
  refine Tr.out1 rfl (Res.tmp rfl) fun w hw => ?_
  exact ⟨rfl, hw.sub (List.nil_sublist _)⟩

theorem curveOrder_walk (x0 x1 x2 : List (BitVec 8)) (w : World) (l0 : x0.length = 32) (l1 : x1.length = 32) (l2 : x2.length = 32) :
    Calls Try.prog 7 #[.agg (x0.map U8).toArray, .agg (x1.map U8).toArray, .agg (x2.map U8).toArray] w fun r w' => r = .returned (.bool true) ∧ Hp w [] [] w' := curveOrder_run x0 x1 x2 w l0 l1 l2
namespace curveOrder
open Go.ChangeShapes Go.WideShapes Go.ChangeAt Go.RowKit Go.Sym
theorem own : ownKnob Try.prog.godebug = none := by kernel_rfl
theorem laidOut : laidOutB Try.prog = true := by kernel_rfl
set_option maxRecDepth 100000 in
theorem lifted (os : Os) (started : os.Started) (H : Type) (enc : TypeId × Value → H) :
    ReturnsInHanded {} Try.checked os 7 .any (Rows.curveOrderSpec.pre6 enc Try.prog Try.f7 Rows.curveOrderRow.domain false) (Rows.curveOrderSpec.post enc Try.prog Try.f7 false true false false) := by
  refine returnsInHanded_of_change (C := Try.checked) own started (by kernel_rfl) Try.func7
    (ChangeSpec.witness6 (enc := enc) (C := Try.checked) false ⟨#[], #[.agg #[.int .u8 0, .int .u8 0, .int .u8 0, .int .u8 0, .int .u8 0, .int .u8 0, .int .u8 0, .int .u8 0, .int .u8 0, .int .u8 0, .int .u8 0, .int .u8 0, .int .u8 0, .int .u8 0, .int .u8 0, .int .u8 0, .int .u8 0, .int .u8 0, .int .u8 0, .int .u8 0, .int .u8 0, .int .u8 0, .int .u8 0, .int .u8 0, .int .u8 0, .int .u8 0, .int .u8 0, .int .u8 0, .int .u8 0, .int .u8 0, .int .u8 0, .int .u8 0], .agg #[.int .u8 0, .int .u8 0, .int .u8 0, .int .u8 0, .int .u8 0, .int .u8 0, .int .u8 0, .int .u8 0, .int .u8 0, .int .u8 0, .int .u8 0, .int .u8 0, .int .u8 0, .int .u8 0, .int .u8 0, .int .u8 0, .int .u8 0, .int .u8 0, .int .u8 0, .int .u8 0, .int .u8 0, .int .u8 0, .int .u8 0, .int .u8 0, .int .u8 0, .int .u8 0, .int .u8 0, .int .u8 0, .int .u8 0, .int .u8 0, .int .u8 0, .int .u8 0], .agg #[.int .u8 0, .int .u8 0, .int .u8 0, .int .u8 0, .int .u8 0, .int .u8 0, .int .u8 0, .int .u8 0, .int .u8 0, .int .u8 0, .int .u8 0, .int .u8 0, .int .u8 0, .int .u8 0, .int .u8 0, .int .u8 0, .int .u8 0, .int .u8 0, .int .u8 0, .int .u8 0, .int .u8 0, .int .u8 0, .int .u8 0, .int .u8 0, .int .u8 0, .int .u8 0, .int .u8 0, .int .u8 0, .int .u8 0, .int .u8 0, .int .u8 0, .int .u8 0]], []⟩ 8 (by kernel_rfl) (by kernel_rfl) (by kernel_rfl) (by kernel_rfl)) ?_
  intro W base args ds gs before hval0 hW hcnd _
  have hval : ∀ (j : Nat) t v, Try.f7.params[j]? = some t → args[j]? = some v → Value.okWide Try.prog W .any base t v := hval0
  have hW' := hW
  obtain ⟨p, q, hA0, hV, rfl, hfz, hnd⟩ := hW
  have hA : DataW.TrodAll enc Try.prog W 0 (fun _ => true) true Try.f7.params.toList args.toList ds p := hA0
  rw [Try.params7] at hA hval
  obtain ⟨v0, vs0, d0, ds0, p0, q0, hargs, rfl, rfl, h0, r0⟩ := trodAll_cons hA
  obtain ⟨v1, vs1, d1, ds1, p1, q1, rfl, rfl, rfl, h1, r1⟩ := trodAll_cons r0
  obtain ⟨v2, vs2, d2, ds2, p2, q2, rfl, rfl, rfl, h2, r2⟩ := trodAll_cons r1
  obtain ⟨rfl, rfl, rfl⟩ := trodAll_nil r2
  obtain rfl : args = #[v0, v1, v2] := by cases args; simp_all
  obtain ⟨rfl, rfl⟩ := trodVars_none hV
  have k0 := h0
  have lt0 : ∀ x ∈ p0, x.block < W.heap.size := by obtain ⟨m, hm⟩ := k0; exact DataW.trod_lt m _ _ _ hm
  obtain ⟨x0, l0, rfl⟩ := open_bytesArr Try.underlying23 Try.underlying5 (by kernel_rfl) (by kernel_rfl) (hval 0 23 v0 rfl rfl) h0
  have k1 := h1
  have lt1 : ∀ x ∈ p1, x.block < W.heap.size := by obtain ⟨m, hm⟩ := k1; exact DataW.trod_lt m _ _ _ hm
  obtain ⟨x1, l1, rfl⟩ := open_bytesArr Try.underlying23 Try.underlying5 (by kernel_rfl) (by kernel_rfl) (hval 1 23 v1 rfl rfl) h1
  have k2 := h2
  have lt2 : ∀ x ∈ p2, x.block < W.heap.size := by obtain ⟨m, hm⟩ := k2; exact DataW.trod_lt m _ _ _ hm
  obtain ⟨x2, l2, rfl⟩ := open_bytesArr Try.underlying23 Try.underlying5 (by kernel_rfl) (by kernel_rfl) (hval 2 23 v2 rfl rfl) h2
  clear hA0 hval0
  refine (curveOrder_walk x0 x1 x2 W l0 l1 l2).mono fun e W' ⟨he, hp⟩ => ?_
  have bel : Below W.heap.size W W' := hp.below
  subst he
  exact ⟨_, rfl, _, _, _, [], _, [], hW', trodAll_mk1 (shut_bool Try.underlying4 _), (trodAll_cons_mk (Below.trod laidOut (by kernel_rfl) (of_decide_eq_true (by kernel_rfl)) k0 bel lt0) (trodAll_cons_mk (Below.trod laidOut (by kernel_rfl) (of_decide_eq_true (by kernel_rfl)) k1 bel lt1) (trodAll_cons_mk (Below.trod laidOut (by kernel_rfl) (of_decide_eq_true (by kernel_rfl)) k2 bel lt2) trodAll_mk0))), rfl, bel.frame _, fun h => by cases h⟩
theorem over : Rows.curveOrderRow.holds Try.pinned (OpenSpec.ofChange Rows.curveOrderSpec) :=
  OpenClaim.holds_of_wide 7 Try.f7 rfl rfl rfl rfl rfl rfl rfl ⟨rfl, rfl, rfl, rfl, rfl⟩ rfl rfl rfl rfl rfl (by kernel_rfl) Try.func7 (by kernel_rfl)
    (of_decide_eq_true (by kernel_rfl)) (by unfold Func.isWrapper; first | (rw [if_pos (by decide +kernel)]; kernel_rfl) | (rw [if_neg (by decide +kernel)]; exact ⟨rfl, rfl⟩))
    (fun os started H enc _ => lifted os started H enc)
end curveOrder
/-- The statement. -/
theorem curveOrderProved : Rows.CurveOrderSaid := curveOrder.over
end Go.Proofs.Ytgkndcincgpmdaa
