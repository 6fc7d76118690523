/-
  hatchwaylaw01.WordsRuns returns true, whatever its argument. (Printed by law1.py over the walk printer of this session.)
-/
import Derived.Test.YtnhfmmohdiccgaaRows
import Derived.Test.YtnhfmmohdiccgaaFrame
import Derived.Test.YtnhfmmohdiccgaaShown1
import Derived.Test.YtnhfmmohdiccgaaPlainLaw1
import Derived.Test.YtnhfmmohdiccgaaAny1
namespace Go.Proofs.Ytnhfmmohdiccgaa
open Go.Sym Plain
set_option linter.unusedVariables false

theorem wordsRuns_run (p : Option Addr) (m c : Nat) (xs : List (BitVec 8)) (w : World) (hx : Bytes w p m c xs) :
    Calls Try.prog 8 [.slice p m c].toArray w fun r w' => r = .returned (.bool true) ∧ Hp w [] [] w' := by
  obtain ⟨k, hkk⟩ : ∃ k, k = Nat.min m 500 := ⟨_, rfl⟩
  have hk1 : k ≤ m := by rw [hkk]; exact Nat.min_le_left _ _
  have hk2 : k ≤ 500 := by rw [hkk]; exact Nat.min_le_right _ _
  have hb := hx.part hk1
  have hle := hx.le
  have hmx := hx.max
  refine Tr.enter Try.func8 rfl Try.ntmps8 rfl (Hp.refl w) ?_
  refine Tr.seq ?_
  refine Tr.region ?_
  refine Tr.val (V.assign rfl) rfl ?_
  refine Tr.lNil ?_
  refine Tr.thenN ?_
  refine Tr.seq ?_
  refine Tr.region ?_
  refine Tr.op (W.call1 (args0) Try.call18 rfl (fun w _ => shown_true w) ?_)
  refine Tr.val (V.assign rfl) rfl ?_
  refine Tr.lNil ?_
  refine Tr.thenN ?_
  refine Tr.seq ?_
  refine Tr.region ?_
  refine Tr.val (V.move rfl) rfl ?_
  refine Tr.val (V.move rfl) rfl ?_
  refine Tr.val (V.len Try.runUnderlying22 rfl) rfl ?_
  refine Tr.val ((by rw [hkk]; exact V.minN (b := 500) rfl rfl : VOp Try.prog _ _ _ _ _ _ _ (.int .i64 (k : Int)))) rfl ?_
  refine Tr.val (V.cut Try.runUnderlying22 Try.sizeOf5 rfl rfl (by omega)) rfl ?_
  refine Tr.val (V.assign rfl) rfl ?_
  refine Tr.lNil ?_
  refine Tr.thenN ?_
  refine Tr.seq ?_
  refine Tr.region ?_
  refine Tr.val (V.move rfl) rfl ?_
  refine Tr.val (V.move rfl) rfl ?_
  refine Tr.valG rfl (V.move rfl) rfl ?_
  refine Tr.valG rfl (V.move rfl) rfl ?_
  refine Tr.opG rfl (W.call1 (args1 rfl) Try.call23 rfl (fun w1 hw => crc_any p k c (xs.take k) w1 ((hb.old).now hw) hb.length (by omega)) ?_)
  refine Tr.valG rfl (V.conv32_64 Try.runUnderlying29 Try.runUnderlying23 rfl) rfl ?_
  refine Tr.opG rfl (W.call (val := fun x : Nat × Nat × List Value => .slice (some ⟨x.1, 0, none⟩) (k + effI 4) x.2.1) (N := fun x => [⟨x.1, 5, (xs.take k ++ putW false ((~~~ crcL (xs.take k)).setWidth 64) (effI 4)).map U8 ++ x.2.2⟩]) (Px := fun _ => True)  (args4 rfl rfl rfl rfl) Try.call19 rfl (fun w1 hw => (put_any p k c (xs.take k) 4 _ false w1 (hb.now hw) (by omega) (.inr (by decide))).mono fun _ _ ⟨x, h⟩ => ⟨x, h.1, h.2.1, trivial⟩) fun y _ => ?_)
  refine Tr.opG rfl (W.call1 (args1 rfl) Try.call23 rfl (fun w1 hw => crc_any (some ⟨y.1, 0, none⟩) (k + effI 4) y.2.1 _ w1 ((RdP.headL (List.Mem.head _)).now hw) (by rw [List.length_append, hb.length, putW_len]) (by rw [show effI 4 = 4 from rfl]; omega)) ?_)
  refine Tr.valG rfl (V.eql32 (Y := 558161692#32) (b := true) rfl rfl (decide_eq_true (crc_own _))) rfl ?_
  refine Tr.val (V.pick rfl rfl) rfl ?_
  refine Tr.val (V.assign rfl) rfl ?_
  refine Tr.lNil ?_
  refine Tr.thenN ?_
  refine Tr.ret ?_
  refine Tr.out1 rfl (Res.tmp rfl) fun w hw => ?_
  exact ⟨rfl, hw.sub (List.nil_sublist _)⟩

theorem wordsRuns_walk (a0 : Option Addr) (len0 cap0 : Nat) (z0 : List Int) (w : World) (w0 : IsRow .u8 w a0 len0 cap0 z0) :
    Calls Try.prog 8 #[.slice a0 len0 cap0] w fun r w' => r = .returned (.bool true) ∧ Hp w [] [] w' := by
  obtain ⟨xs, hx⟩ := w0.bytes
  exact wordsRuns_run a0 len0 cap0 xs w hx
namespace wordsRuns
open Go.ChangeShapes Go.WideShapes Go.ChangeAt Go.RowKit Go.Sym
theorem own : ownKnob Try.prog.godebug = none := by kernel_rfl
theorem laidOut : laidOutB Try.prog = true := by kernel_rfl
set_option maxRecDepth 100000 in
theorem lifted (os : Os) (started : os.Started) (H : Type) (enc : TypeId × Value → H) :
    ReturnsInHanded {} Try.checked os 8 .any (Rows.wordsRunsSpec.pre6 enc Try.prog Try.f8 Rows.wordsRunsRow.domain false) (Rows.wordsRunsSpec.post enc Try.prog Try.f8 false true false false) := by
  refine returnsInHanded_of_change (C := Try.checked) own started (by kernel_rfl) Try.func8
    (ChangeSpec.witness6 (enc := enc) (C := Try.checked) false ⟨#[], #[.slice none 0 0], []⟩ 8 (by kernel_rfl) (by kernel_rfl) (by kernel_rfl) (by kernel_rfl)) ?_
  intro W base args ds gs before hval0 hW hcnd _
  have hval : ∀ (j : Nat) t v, Try.f8.params[j]? = some t → args[j]? = some v → Value.okWide Try.prog W .any base t v := hval0
  have hW' := hW
  obtain ⟨p, q, hA0, hV, rfl, hfz, hnd⟩ := hW
  have hA : DataW.TrodAll enc Try.prog W 0 (fun _ => true) true Try.f8.params.toList args.toList ds p := hA0
  rw [Try.params8] at hA hval
  obtain ⟨v0, vs0, d0, ds0, p0, q0, hargs, rfl, rfl, h0, r0⟩ := trodAll_cons hA
  obtain ⟨rfl, rfl, rfl⟩ := trodAll_nil r0
  obtain rfl : args = #[v0] := by cases args; simp_all
  obtain ⟨rfl, rfl⟩ := trodVars_none hV
  obtain ⟨a0, len0, cap0, rfl⟩ := okWide_slice Try.underlying22 (hval 0 22 v0 rfl rfl)
  have k0 := h0
  have lt0 : ∀ x ∈ p0, x.block < W.heap.size := by obtain ⟨m, hm⟩ := k0; exact DataW.trod_lt m _ _ _ hm
  obtain ⟨z0, w0⟩ : ∃ zs, IsRow .u8 W a0 len0 cap0 zs := by
    obtain ⟨fuel, hf⟩ := h0
    rcases open_ints Try.underlying22 Try.underlying5 (by kernel_rfl) hf with ⟨hcs, _⟩ | ⟨x, l, c, zs, hcs, _, hl, hm, hz, _, hcell, hwz⟩
    · simp [Value.cells] at hcs
      obtain ⟨rfl, rfl, rfl⟩ := hcs
      exact ⟨[], .inl ⟨rfl, rfl, rfl, rfl⟩⟩
    · simp [Value.cells] at hcs
      obtain ⟨rfl, rfl, rfl⟩ := hcs
      exact ⟨zs, .inr ⟨_, rfl, hl, hm, by simpa using hz, hcell, hwz⟩⟩
  clear hA0 hval0
  refine (wordsRuns_walk a0 len0 cap0 z0 W w0).mono fun e W' ⟨he, hp⟩ => ?_
  have bel : Below W.heap.size W W' := hp.below
  subst he
  exact ⟨_, rfl, _, _, _, [], _, [], hW', trodAll_mk1 (shut_bool Try.underlying4 _), (trodAll_cons_mk (Below.trod laidOut (by kernel_rfl) (of_decide_eq_true (by kernel_rfl)) k0 bel lt0) trodAll_mk0), rfl, bel.frame _, fun h => by cases h⟩
theorem over : Rows.wordsRunsRow.holds Try.pinned (OpenSpec.ofChange Rows.wordsRunsSpec) :=
  OpenClaim.holds_of_wide 8 Try.f8 rfl rfl rfl rfl rfl rfl rfl ⟨rfl, rfl, rfl, rfl, rfl⟩ rfl rfl rfl rfl rfl (by kernel_rfl) Try.func8 (by kernel_rfl)
    (of_decide_eq_true (by kernel_rfl)) (by unfold Func.isWrapper; first | (rw [if_pos (by decide +kernel)]; kernel_rfl) | (rw [if_neg (by decide +kernel)]; exact ⟨rfl, rfl⟩))
    (fun os started H enc _ => lifted os started H enc)
end wordsRuns
/-- The statement. -/
theorem wordsRunsProved : Rows.WordsRunsSaid := wordsRuns.over
end Go.Proofs.Ytnhfmmohdiccgaa
