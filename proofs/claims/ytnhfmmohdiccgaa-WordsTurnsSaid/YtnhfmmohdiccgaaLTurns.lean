/-
  hatchwaylaw01.WordsTurns returns true, whatever its arguments. (Printed by law1.py over the walk printer of this session.)
-/
import Derived.Test.YtnhfmmohdiccgaaRows
import Derived.Test.YtnhfmmohdiccgaaFrame
import Derived.Test.YtnhfmmohdiccgaaShown1
import Derived.Test.YtnhfmmohdiccgaaPlainLaw1
namespace Go.Proofs.Ytnhfmmohdiccgaa
open Go.Sym Plain
set_option linter.unusedVariables false

theorem wordsTurns_run (X : BitVec 32) (a b : Int) (ha : -9223372036854775808 ≤ a ∧ a ≤ 9223372036854775807) (hb : -9223372036854775808 ≤ b ∧ b ≤ 9223372036854775807) (w : World) :
    Calls Try.prog 6 [U32 X, .int .i64 a, .int .i64 b].toArray w fun r w' => r = .returned (.bool true) ∧ Hp w [] [] w' := by
  obtain ⟨a', ha'⟩ : ∃ a', a' = a.tmod 1000000 := ⟨_, rfl⟩
  obtain ⟨b', hb'⟩ : ∃ b', b' = b.tmod 1000000 := ⟨_, rfl⟩
  have hab : -1000000 < a' ∧ a' < 1000000 := by
    rw [ha']
    exact ⟨Int.lt_tmod_of_pos a (by decide), Int.tmod_lt_of_pos a (by decide)⟩
  have hbb : -1000000 < b' ∧ b' < 1000000 := by
    rw [hb']
    exact ⟨Int.lt_tmod_of_pos b (by decide), Int.tmod_lt_of_pos b (by decide)⟩
  refine Tr.enter Try.func6 rfl Try.ntmps6 rfl (Hp.refl w) ?_
  refine Tr.seq ?_
  refine Tr.region ?_
  refine Tr.val (V.assign rfl) rfl ?_
  refine Tr.lNil ?_
  refine Tr.thenN ?_
  refine Tr.seq ?_
  refine Tr.region ?_
  refine Tr.op (W.call1 (args0) Try.call18 rfl (fun w _ => shown_true w) ?_)
  refine Tr.val (V.assign rfl) rfl ?_
  refine Tr.lNil ?_
  refine Tr.thenN ?_
  refine Tr.seq ?_
  refine Tr.region ?_
  refine Tr.val (V.move rfl) rfl ?_
  refine Tr.val ((by rw [ha']; exact V.remT rfl rfl (by decide) : VOp Try.prog _ _ _ _ _ _ _ (.int .i64 a'))) rfl ?_
  refine Tr.val (V.assign rfl) rfl ?_
  refine Tr.lNil ?_
  refine Tr.thenN ?_
  refine Tr.seq ?_
  refine Tr.region ?_
  refine Tr.val (V.move rfl) rfl ?_
  refine Tr.val ((by rw [hb']; exact V.remT rfl rfl (by decide) : VOp Try.prog _ _ _ _ _ _ _ (.int .i64 b'))) rfl ?_
  refine Tr.val (V.assign rfl) rfl ?_
  refine Tr.lNil ?_
  refine Tr.thenN ?_
  refine Tr.seq ?_
  refine Tr.region ?_
  refine Tr.val (V.move rfl) rfl ?_
  refine Tr.val (V.move rfl) rfl ?_
  refine Tr.valG rfl (V.move rfl) rfl ?_
  refine Tr.valG rfl (V.move rfl) rfl ?_
  refine Tr.opG rfl (W.call1 (args2 rfl rfl) Try.call25 rfl (fun w _ => rot_any _ _ w) ?_)
  refine Tr.valG rfl (V.move rfl) rfl ?_
  refine Tr.opG rfl (W.call1 (args2 rfl rfl) Try.call25 rfl (fun w _ => rot_any _ _ w) ?_)
  refine Tr.valG rfl (V.move rfl) rfl ?_
  refine Tr.valG rfl (V.move rfl) rfl ?_
  refine Tr.valG rfl (V.move rfl) rfl ?_
  refine Tr.valG rfl (V.add rfl rfl (by omega)) rfl ?_
  refine Tr.opG rfl (W.call1 (args2 rfl rfl) Try.call25 rfl (fun w _ => rot_any _ _ w) ?_)
  refine Tr.valG rfl (V.eql32 (b := true) rfl rfl (by rw [rotI_rotI]; simp)) rfl ?_
  refine Tr.val (V.pick rfl rfl) rfl ?_
  refine Tr.val (V.move rfl) rfl ?_
  refine Tr.valG rfl (V.move rfl) rfl ?_
  refine Tr.opG rfl (W.call1 (args2 rfl rfl) Try.call25 rfl (fun w _ => rot_any _ _ w) ?_)
  refine Tr.valG rfl (V.move rfl) rfl ?_
  refine Tr.valG rfl (V.eql32 (b := true) rfl rfl (by rw [rotI_zero X 32 rfl]; simp)) rfl ?_
  refine Tr.val (V.pick rfl rfl) rfl ?_
  refine Tr.val (V.move rfl) rfl ?_
  refine Tr.valG rfl (V.move rfl) rfl ?_
  refine Tr.valG rfl (V.move rfl) rfl ?_
  refine Tr.opG rfl (W.call1 (args2 rfl rfl) Try.call25 rfl (fun w _ => rot_any _ _ w) ?_)
  refine Tr.valG rfl (V.move rfl) rfl ?_
  refine Tr.valG rfl (V.negI rfl (by omega)) rfl ?_
  refine Tr.opG rfl (W.call1 (args2 rfl rfl) Try.call25 rfl (fun w _ => rot_any _ _ w) ?_)
  refine Tr.valG rfl (V.move rfl) rfl ?_
  refine Tr.valG rfl (V.eql32 (b := true) rfl rfl (by rw [rotI_rotI, rotI_zero X _ (by omega)]; simp)) rfl ?_
  refine Tr.val (V.pick rfl rfl) rfl ?_
  refine Tr.val (V.assign rfl) rfl ?_
  refine Tr.lNil ?_
  refine Tr.thenN ?_
  refine Tr.ret ?_
  refine Tr.out1 rfl (Res.tmp rfl) fun w hw => ?_
  exact ⟨rfl, hw⟩

theorem wordsTurns_walk (a0 a1 a2 : Int) (w : World) (w0 : (Lit.int .u32 a0).wf = true) (w1 : (Lit.int .i64 a1).wf = true) (w2 : (Lit.int .i64 a2).wf = true) :
    Calls Try.prog 6 #[.int .u32 a0, .int .i64 a1, .int .i64 a2] w fun r w' => r = .returned (.bool true) ∧ Hp w [] [] w' := by
  obtain ⟨X, rfl⟩ := wf32 w0
  exact wordsTurns_run X a1 a2 (wfI w1) (wfI w2) w
namespace wordsTurns
open Go.ChangeShapes Go.WideShapes Go.ChangeAt Go.RowKit Go.Sym
theorem own : ownKnob Try.prog.godebug = none := by kernel_rfl
theorem laidOut : laidOutB Try.prog = true := by kernel_rfl
set_option maxRecDepth 100000 in
theorem lifted (os : Os) (started : os.Started) (H : Type) (enc : TypeId × Value → H) :
    ReturnsInHanded {} Try.checked os 6 .any (Rows.wordsTurnsSpec.pre6 enc Try.prog Try.f6 Rows.wordsTurnsRow.domain false) (Rows.wordsTurnsSpec.post enc Try.prog Try.f6 false true false false) := by
  refine returnsInHanded_of_change (C := Try.checked) own started (by kernel_rfl) Try.func6
    (ChangeSpec.witness6 (enc := enc) (C := Try.checked) false ⟨#[], #[.int .u32 0, .int .i64 0, .int .i64 0], []⟩ 8 (by kernel_rfl) (by kernel_rfl) (by kernel_rfl) (by kernel_rfl)) ?_
  intro W base args ds gs before hval0 hW hcnd _
  have hval : ∀ (j : Nat) t v, Try.f6.params[j]? = some t → args[j]? = some v → Value.okWide Try.prog W .any base t v := hval0
  have hW' := hW
  obtain ⟨p, q, hA0, hV, rfl, hfz, hnd⟩ := hW
  have hA : DataW.TrodAll enc Try.prog W 0 (fun _ => true) true Try.f6.params.toList args.toList ds p := hA0
  rw [Try.params6] at hA hval
  obtain ⟨v0, vs0, d0, ds0, p0, q0, hargs, rfl, rfl, h0, r0⟩ := trodAll_cons hA
  obtain ⟨v1, vs1, d1, ds1, p1, q1, rfl, rfl, rfl, h1, r1⟩ := trodAll_cons r0
  obtain ⟨v2, vs2, d2, ds2, p2, q2, rfl, rfl, rfl, h2, r2⟩ := trodAll_cons r1
  obtain ⟨rfl, rfl, rfl⟩ := trodAll_nil r2
  obtain rfl : args = #[v0, v1, v2] := by cases args; simp_all
  obtain ⟨rfl, rfl⟩ := trodVars_none hV
  obtain ⟨a0, rfl, rfl, rfl, w0⟩ := open_int Try.underlying29 (hval 0 29 v0 rfl rfl) h0
  obtain ⟨a1, rfl, rfl, rfl, w1⟩ := open_int Try.underlying3 (hval 1 3 v1 rfl rfl) h1
  obtain ⟨a2, rfl, rfl, rfl, w2⟩ := open_int Try.underlying3 (hval 2 3 v2 rfl rfl) h2
  clear hA0 hval0
  refine (wordsTurns_walk a0 a1 a2 W w0 w1 w2).mono fun e W' ⟨he, hp⟩ => ?_
  have bel : Below W.heap.size W W' := hp.below
  subst he
  exact ⟨_, rfl, _, _, _, [], _, [], hW', trodAll_mk1 (shut_bool Try.underlying4 _), (trodAll_cons_mk (shut_int Try.underlying29 w0) (trodAll_cons_mk (shut_int Try.underlying3 w1) (trodAll_cons_mk (shut_int Try.underlying3 w2) trodAll_mk0))), rfl, bel.frame _, fun h => by cases h⟩
theorem over : Rows.wordsTurnsRow.holds Try.pinned (OpenSpec.ofChange Rows.wordsTurnsSpec) :=
  OpenClaim.holds_of_wide 6 Try.f6 rfl rfl rfl rfl rfl rfl rfl ⟨rfl, rfl, rfl, rfl, rfl⟩ rfl rfl rfl rfl rfl (by kernel_rfl) Try.func6 (by kernel_rfl)
    (of_decide_eq_true (by kernel_rfl)) (by unfold Func.isWrapper; first | (rw [if_pos (by decide +kernel)]; kernel_rfl) | (rw [if_neg (by decide +kernel)]; exact ⟨rfl, rfl⟩))
    (fun os started H enc _ => lifted os started H enc)
end wordsTurns
/-- The statement. -/
theorem wordsTurnsProved : Rows.WordsTurnsSaid := wordsTurns.over
end Go.Proofs.Ytnhfmmohdiccgaa
