/-
  hatchwaylaw08.CurvePublic returns true, whatever its arguments. (Printed by a program of this session over its walk printer.)
-/
import Derived.Test.YtgkndcincgpmdaaChecked
import Derived.Test.YtgkndcincgpmdaaRows
import Derived.Test.YtgkndcincgpmdaaLaw8
import Derived.Test.YtgkndcincgpmdaaRef8B
namespace Go.Proofs.Ytgkndcincgpmdaa
open Go.Sym Plain
set_option linter.unusedVariables false
set_option maxRecDepth 20000

theorem curvePublic_run (k : List (BitVec 8)) (w : World) (hk : k.length = 32) :
    Calls Try.prog 4 [.agg (k.map U8).toArray].toArray w fun r w' => r = .returned (.bool true) ∧ Hp w [] [] w' := by
  obtain ⟨X, hX⟩ : ∃ X, X = multL k nineK := ⟨_, rfl⟩
  have hXl : X.length = 32 := by rw [hX]; exact multL_len k nineK
  refine Tr.enter Try.func4 rfl Try.ntmps4 rfl (Hp.refl w) ?_
  refine Tr.seq ?_
  refine Tr.region ?_
  refine Tr.op (W.box (cs := k.map U8) rfl rfl rfl fun g1 => ?_)
  refine Tr.val (V.assign rfl) rfl ?_
  refine Tr.lNil ?_
  refine Tr.thenN ?_
  refine Tr.seq ?_
  refine Tr.region ?_
  refine Tr.op (W.call1 (args0) Try.call11 rfl (fun w1 _ => shown8_true w1) ?_)
  refine Tr.val (V.assign rfl) rfl ?_
  refine Tr.lNil ?_
  refine Tr.thenN ?_
  refine Tr.seq ?_
  refine Tr.region ?_
  refine Tr.val (V.loadN (cs := k.map U8) Try.isAgg23 (by rw [List.length_map, hk]; exact Try.sizeOf23) rfl (V.cellsB (by repeat (first | exact List.Mem.head _ | apply List.Mem.tail)))) rfl ?_
  refine Tr.op (W.call1 (args1 rfl) Try.call15 rfl (fun w1 _ => by have h := public_any k w1 hk; rw [← hX] at h; exact h) ?_)
  refine Tr.op (W.alloc (cs := (List.replicate 32 0#8).map U8) Try.zeroValue23 rfl rfl fun g4 => ?_)
  refine Tr.op (W.storeAll (vs := X.map U8) (cs := (List.replicate 32 0#8).map U8) Try.sizeOf23 rfl rfl (by rw [List.length_map, hXl]) rfl (one8 _) (by repeat (first | exact Upd.head | apply Upd.tail)) ?_)
  refine Tr.lNil ?_
  refine Tr.thenN ?_
  refine Tr.seq ?_
  refine Tr.regionD [0, 1, 3, 7, 3, 19, 51, 127, 255, 511] [] (.pure 0 (.pure 1 (.pure 2 (.soft 3 (.pure 4 (.hard 5 (.soft 6 (.pure 7 (.pure 8 (.pure 9 .done)))))))))) mixed (by kernel_rfl) ?_
  refine TrP.pure rfl (fun _ => V.move rfl) rfl ?_
  refine TrP.pure rfl (fun _ => V.move rfl) rfl ?_
  refine TrP.pureG rfl rfl (fun _ => V.sliceW Try.runUnderlying23 Try.sizeOf5 rfl) rfl ?_
  refine TrP.softG rfl rfl (V.bytesStr Try.runUnderlying29 Try.runUnderlying9 Try.runUnderlying5 rfl (xs := X) (RdP.all (by repeat (first | exact List.Mem.head _ | apply List.Mem.tail))) hXl) rfl ?_
  refine TrP.pureG rfl rfl (fun _ => V.sliceW Try.runUnderlying23 Try.sizeOf5 rfl) rfl ?_
  refine TrP.hardG rfl rfl (W.call (val := fun g : Nat => .slice (some ⟨g, 0, none⟩) 32 32) (N := fun g => [⟨g, 5, X.map U8⟩]) (Px := fun _ => True)  (args1 rfl) Try.call16 rfl (fun w1 hw => by have h := rpublic_any (some ⟨g1, 0, none⟩) 32 k w1 ⟨(RdP.all (g := g1) (by repeat (first | exact List.Mem.head _ | apply List.Mem.tail))).now hw, hk, Nat.le_refl _, by omega, fun h => by cases h⟩; rw [← hX] at h; exact h) fun g13 _ => ?_)
  refine Tr.pOn (by first | exact List.Sublist.refl _ | exact List.sublist_cons_self _ _ | exact List.sublist_append_right _ _ | simp) ?_
  refine TrP.softG rfl rfl (V.bytesStr Try.runUnderlying29 Try.runUnderlying9 Try.runUnderlying5 rfl (xs := X) (RdP.all (by repeat (first | exact List.Mem.head _ | apply List.Mem.tail))) hXl) rfl ?_
  refine TrP.pureG rfl rfl (fun _ => V.eqlS (b := true) rfl rfl (bstr_same _)) rfl ?_
  refine TrP.pure rfl (fun _ => V.pick rfl rfl) rfl ?_
  refine TrP.pure rfl (fun _ => V.assign rfl) rfl ?_
  refine TrP.done ?_
  refine Tr.thenN ?_
  refine Tr.ret ?_
  refine Tr.out1 rfl (Res.tmp rfl) fun w hw => ?_
  exact ⟨rfl, hw.sub (List.nil_sublist _)⟩

theorem curvePublic_walk (x0 : List (BitVec 8)) (w : World) (l0 : x0.length = 32) :
    Calls Try.prog 4 #[.agg (x0.map U8).toArray] w fun r w' => r = .returned (.bool true) ∧ Hp w [] [] w' := curvePublic_run x0 w l0
namespace curvePublic
open Go.ChangeShapes Go.WideShapes Go.ChangeAt Go.RowKit Go.Sym
theorem own : ownKnob Try.prog.godebug = none := by kernel_rfl
theorem laidOut : laidOutB Try.prog = true := by kernel_rfl
set_option maxRecDepth 100000 in
theorem lifted (os : Os) (started : os.Started) (H : Type) (enc : TypeId × Value → H) :
    ReturnsInHanded {} Try.checked os 4 .any (Rows.curvePublicSpec.pre6 enc Try.prog Try.f4 Rows.curvePublicRow.domain false) (Rows.curvePublicSpec.post enc Try.prog Try.f4 false true false false) := by
  refine returnsInHanded_of_change (C := Try.checked) own started (by kernel_rfl) Try.func4
    (ChangeSpec.witness6 (enc := enc) (C := Try.checked) false ⟨#[], #[.agg #[.int .u8 0, .int .u8 0, .int .u8 0, .int .u8 0, .int .u8 0, .int .u8 0, .int .u8 0, .int .u8 0, .int .u8 0, .int .u8 0, .int .u8 0, .int .u8 0, .int .u8 0, .int .u8 0, .int .u8 0, .int .u8 0, .int .u8 0, .int .u8 0, .int .u8 0, .int .u8 0, .int .u8 0, .int .u8 0, .int .u8 0, .int .u8 0, .int .u8 0, .int .u8 0, .int .u8 0, .int .u8 0, .int .u8 0, .int .u8 0, .int .u8 0, .int .u8 0]], []⟩ 8 (by kernel_rfl) (by kernel_rfl) (by kernel_rfl) (by kernel_rfl)) ?_
  intro W base args ds gs before hval0 hW hcnd _
  have hval : ∀ (j : Nat) t v, Try.f4.params[j]? = some t → args[j]? = some v → Value.okWide Try.prog W .any base t v := hval0
  have hW' := hW
  obtain ⟨p, q, hA0, hV, rfl, hfz, hnd⟩ := hW
  have hA : DataW.TrodAll enc Try.prog W 0 (fun _ => true) true Try.f4.params.toList args.toList ds p := hA0
  rw [Try.params4] at hA hval
  obtain ⟨v0, vs0, d0, ds0, p0, q0, hargs, rfl, rfl, h0, r0⟩ := trodAll_cons hA
  obtain ⟨rfl, rfl, rfl⟩ := trodAll_nil r0
  obtain rfl : args = #[v0] := by cases args; simp_all
  obtain ⟨rfl, rfl⟩ := trodVars_none hV
  have k0 := h0
  have lt0 : ∀ x ∈ p0, x.block < W.heap.size := by obtain ⟨m, hm⟩ := k0; exact DataW.trod_lt m _ _ _ hm
  obtain ⟨x0, l0, rfl⟩ := open_bytesArr Try.underlying23 Try.underlying5 (by kernel_rfl) (by kernel_rfl) (hval 0 23 v0 rfl rfl) h0
  clear hA0 hval0
  refine (curvePublic_walk x0 W l0).mono fun e W' ⟨he, hp⟩ => ?_
  have bel : Below W.heap.size W W' := hp.below
  subst he
  exact ⟨_, rfl, _, _, _, [], _, [], hW', trodAll_mk1 (shut_bool Try.underlying4 _), (trodAll_cons_mk (Below.trod laidOut (by kernel_rfl) (of_decide_eq_true (by kernel_rfl)) k0 bel lt0) trodAll_mk0), rfl, bel.frame _, fun h => by cases h⟩
theorem over : Rows.curvePublicRow.holds Try.pinned (OpenSpec.ofChange Rows.curvePublicSpec) :=
  OpenClaim.holds_of_wide 4 Try.f4 rfl rfl rfl rfl rfl rfl rfl ⟨rfl, rfl, rfl, rfl, rfl⟩ rfl rfl rfl rfl rfl (by kernel_rfl) Try.func4 (by kernel_rfl)
    (of_decide_eq_true (by kernel_rfl)) (by unfold Func.isWrapper; first | (rw [if_pos (by decide +kernel)]; kernel_rfl) | (rw [if_neg (by decide +kernel)]; exact ⟨rfl, rfl⟩))
    (fun os started H enc _ => lifted os started H enc)
end curvePublic
/-- The statement. -/
theorem curvePublicProved : Rows.CurvePublicSaid := curvePublic.over
end Go.Proofs.Ytgkndcincgpmdaa
