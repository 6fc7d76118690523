/-
  hatchwaylaw08.CurveTells returns true, whatever its arguments. (Printed by a program of this session over its walk printer.)
-/
import Derived.Test.YtgkndcincgpmdaaChecked
import Derived.Test.YtgkndcincgpmdaaRows
import Derived.Test.YtgkndcincgpmdaaLaw8
import Derived.Test.YtgkndcincgpmdaaPlainTells8
import Derived.Test.YtgkndcincgpmdaaRef8B
namespace Go.Proofs.Ytgkndcincgpmdaa
open Go.Sym Plain
set_option linter.unusedVariables false
set_option maxRecDepth 20000

theorem curveTells_run (k u : List (BitVec 8)) (w : World) (hk : k.length = 32) (hu : u.length = 32) :
    Calls Try.prog 3 [.agg (k.map U8).toArray, .agg (u.map U8).toArray].toArray w fun r w' => r = .returned (.bool true) ∧ Hp w [] [] w' := by
  obtain ⟨X, hX⟩ : ∃ X, X = multL k u := ⟨_, rfl⟩
  have hXl : X.length = 32 := by rw [hX]; exact multL_len k u
  refine Tr.enter Try.func3 rfl Try.ntmps3 rfl (Hp.refl w) ?_
  refine Tr.seq ?_
  refine Tr.region ?_
  refine Tr.op (W.box (cs := k.map U8) rfl rfl rfl fun g2 => ?_)
  refine Tr.op (W.box (cs := u.map U8) rfl rfl rfl fun g3 => ?_)
  refine Tr.val (V.assign rfl) rfl ?_
  refine Tr.lNil ?_
  refine Tr.thenN ?_
  refine Tr.seq ?_
  refine Tr.region ?_
  refine Tr.op (W.call1 (args0) Try.call11 rfl (fun w1 _ => shown8_true w1) ?_)
  refine Tr.val (V.assign rfl) rfl ?_
  refine Tr.lNil ?_
  refine Tr.thenN ?_
  refine Tr.seq ?_
  refine Tr.region ?_
  refine Tr.val (V.loadN (cs := k.map U8) Try.isAgg23 (by rw [List.length_map, hk]; exact Try.sizeOf23) rfl (V.cellsB (by repeat (first | exact List.Mem.head _ | apply List.Mem.tail)))) rfl ?_
  refine Tr.val (V.loadN (cs := u.map U8) Try.isAgg23 (by rw [List.length_map, hu]; exact Try.sizeOf23) rfl (V.cellsB (by repeat (first | exact List.Mem.head _ | apply List.Mem.tail)))) rfl ?_
  refine Tr.op (W.call1 (args2 rfl rfl) Try.call12 rfl (fun w1 _ => by have h := mult_any k u w1 hk hu; rw [← hX] at h; exact h) ?_)
  refine Tr.op (W.alloc (cs := (List.replicate 32 0#8).map U8) Try.zeroValue23 rfl rfl fun g6 => ?_)
  refine Tr.op (W.storeAll (vs := X.map U8) (cs := (List.replicate 32 0#8).map U8) Try.sizeOf23 rfl rfl (by rw [List.length_map, hXl]) rfl (one8 _) (by repeat (first | exact Upd.head | apply Upd.tail)) ?_)
  refine Tr.lNil ?_
  refine Tr.thenN ?_
  refine Tr.seq ?_
  refine Tr.region ?_
  refine Tr.val (V.loadN (cs := k.map U8) Try.isAgg23 (by rw [List.length_map, hk]; exact Try.sizeOf23) rfl (V.cellsB (by repeat (first | exact List.Mem.head _ | apply List.Mem.tail)))) rfl ?_
  refine Tr.val (V.loadN (cs := u.map U8) Try.isAgg23 (by rw [List.length_map, hu]; exact Try.sizeOf23) rfl (V.cellsB (by repeat (first | exact List.Mem.head _ | apply List.Mem.tail)))) rfl ?_
  refine Tr.op (W.call1 (args2 rfl rfl) Try.call13 rfl (fun w1 _ => by have h := shared_any k u w1 hk hu; rw [← hX] at h; exact h) ?_)
  refine Tr.val (V.move rfl) rfl ?_
  refine Tr.val (V.extract rfl rfl) rfl ?_
  refine Tr.val (V.extract rfl rfl) rfl ?_
  refine Tr.op (W.alloc (cs := (List.replicate 32 0#8).map U8) Try.zeroValue23 rfl rfl fun g7 => ?_)
  refine Tr.op (W.storeAll (vs := X.map U8) (cs := (List.replicate 32 0#8).map U8) Try.sizeOf23 rfl rfl (by rw [List.length_map, hXl]) rfl (one8 _) (by repeat (first | exact Upd.head | apply Upd.tail)) ?_)
  refine Tr.val (V.assign rfl) rfl ?_
  refine Tr.lNil ?_
  refine Tr.thenN ?_
  refine Tr.seq ?_
  refine Tr.region ?_
  refine Tr.val (V.loadN (cs := X.map U8) Try.isAgg23 (by rw [List.length_map, hXl]; exact Try.sizeOf23) rfl (V.cellsB (by repeat (first | exact List.Mem.head _ | apply List.Mem.tail)))) rfl ?_
  refine Tr.val ((V.buildA (vs := []) (cs := (zeroK.map U8).toArray) Try.runUnderlying23 Try.sizeOf5 Try.zeroValue23 (fun a he => by simp [Act.eval]) rfl)) rfl ?_
  refine Tr.val (V.eqlA (b := decide (X = zeroK)) arr23 rfl rfl hXl rfl rfl) rfl ?_
  refine Tr.val (V.assign rfl) rfl ?_
  refine Tr.lNil ?_
  refine Tr.thenN ?_
  refine Tr.seq ?_
  refine Tr.regionD [0, 1, 3, 7, 3, 3, 51, 115, 255, 511, 1023, 2047, 2047, 8191, 16383, 32767, 65535, 131071, 65535, 524287, 1048575, 2097151, 4194303, 8388607, 4194303, 20971519, 67108863, 134217727, 268435455] [] (.pure 0 (.pure 1 (.pure 2 (.soft 3 (.pure 4 (.pure 5 (.hard 6 (.soft 7 (.pure 8 (.pure 9 (.pure 10 (.soft 11 (.soft 12 (.pure 13 (.pure 14 (.pure 15 (.pure 16 (.pure 17 (.pure 18 (.pure 19 (.pure 20 (.pure 21 (.pure 22 (.pure 23 (.pure 24 (.pure 25 (.pure 26 (.pure 27 (.pure 28 .done))))))))))))))))))))))))))))) mixed (by kernel_rfl) ?_
  refine TrP.pure rfl (fun _ => V.move rfl) rfl ?_
  refine TrP.pure rfl (fun _ => V.move rfl) rfl ?_
  refine TrP.pureG rfl rfl (fun _ => V.sliceW Try.runUnderlying23 Try.sizeOf5 rfl) rfl ?_
  refine TrP.softG rfl rfl (V.bytesStr Try.runUnderlying29 Try.runUnderlying9 Try.runUnderlying5 rfl (xs := X) (RdP.all (by repeat (first | exact List.Mem.head _ | apply List.Mem.tail))) hXl) rfl ?_
  refine TrP.pureG rfl rfl (fun _ => V.sliceW Try.runUnderlying23 Try.sizeOf5 rfl) rfl ?_
  refine TrP.pureG rfl rfl (fun _ => V.sliceW Try.runUnderlying23 Try.sizeOf5 rfl) rfl ?_
  refine TrP.hardG rfl rfl (W.call (val := fun g : Nat => .slice (some ⟨g, 0, none⟩) 32 32) (N := fun g => [⟨g, 5, X.map U8⟩]) (Px := fun _ => True)  (args2 rfl rfl) Try.call14 rfl (fun w1 hw => by have h := rmult_any (some ⟨g2, 0, none⟩) (some ⟨g3, 0, none⟩) 32 32 k u w1 ⟨(RdP.all (g := g2) (by repeat (first | exact List.Mem.head _ | apply List.Mem.tail))).now hw, hk, Nat.le_refl _, by omega, fun h => by cases h⟩ ⟨(RdP.all (g := g3) (by repeat (first | exact List.Mem.head _ | apply List.Mem.tail))).now hw, hu, Nat.le_refl _, by omega, fun h => by cases h⟩; rw [← hX] at h; exact h) fun g29 _ => ?_)
  refine Tr.pOn (by first | exact List.Sublist.refl _ | exact List.sublist_cons_self _ _ | exact List.sublist_append_right _ _ | simp) ?_
  refine TrP.softG rfl rfl (V.bytesStr Try.runUnderlying29 Try.runUnderlying9 Try.runUnderlying5 rfl (xs := X) (RdP.all (by repeat (first | exact List.Mem.head _ | apply List.Mem.tail))) hXl) rfl ?_
  refine TrP.pureG rfl rfl (fun _ => V.eqlS (b := true) rfl rfl (bstr_same _)) rfl ?_
  refine TrP.pure rfl (fun _ => V.pick rfl rfl) rfl ?_
  refine TrP.pure rfl (fun _ => V.move rfl) rfl ?_
  refine TrP.softG rfl rfl (V.loadN (cs := X.map U8) Try.isAgg23 (by rw [List.length_map, hXl]; exact Try.sizeOf23) rfl (V.cellsB (by repeat (first | exact List.Mem.head _ | apply List.Mem.tail)))) rfl ?_
  refine TrP.softG rfl rfl (V.loadN (cs := X.map U8) Try.isAgg23 (by rw [List.length_map, hXl]; exact Try.sizeOf23) rfl (V.cellsB (by repeat (first | exact List.Mem.head _ | apply List.Mem.tail)))) rfl ?_
  refine TrP.pureG rfl rfl (fun _ => V.eqlA (b := true) arr23 rfl rfl hXl hXl (decide_eq_true rfl)) rfl ?_
  refine TrP.pure rfl (fun _ => V.pick rfl rfl) rfl ?_
  refine TrP.pure rfl (fun _ => V.move rfl) rfl ?_
  refine TrP.pureG rfl rfl (fun _ => V.move rfl) rfl ?_
  refine TrP.pureG rfl rfl (fun _ => V.eql (b := decide (X = zeroK)) rfl rfl (errno4 X)) rfl ?_
  refine TrP.pureG rfl rfl (fun _ => V.move rfl) rfl ?_
  refine TrP.pureG rfl rfl (fun _ => V.eqlBb (b := true) Try.runUnderlying4 rfl rfl (by simp)) rfl ?_
  refine TrP.pure rfl (fun _ => V.pick rfl rfl) rfl ?_
  refine TrP.pure rfl (fun _ => V.move rfl) rfl ?_
  refine TrP.pureG rfl rfl (fun _ => V.move rfl) rfl ?_
  refine TrP.pureG rfl rfl (fun _ => V.eql (b := !decide (X = zeroK)) rfl rfl (errno0 X)) rfl ?_
  refine TrP.pureG rfl rfl (fun _ => V.move rfl) rfl ?_
  refine TrP.pureG rfl rfl (fun _ => V.not rfl) rfl ?_
  refine TrP.pureG rfl rfl (fun _ => V.eqlBb (b := true) Try.runUnderlying4 rfl rfl (by simp)) rfl ?_
  refine TrP.pure rfl (fun _ => V.pick rfl rfl) rfl ?_
  refine TrP.pure rfl (fun _ => V.assign rfl) rfl ?_
  refine TrP.done ?_
  refine Tr.thenN ?_
  refine Tr.ret ?_
  refine Tr.out1 rfl (Res.tmp rfl) fun w hw => ?_
  exact ⟨rfl, hw.sub (List.nil_sublist _)⟩

theorem curveTells_walk (x0 x1 : List (BitVec 8)) (w : World) (l0 : x0.length = 32) (l1 : x1.length = 32) :
    Calls Try.prog 3 #[.agg (x0.map U8).toArray, .agg (x1.map U8).toArray] w fun r w' => r = .returned (.bool true) ∧ Hp w [] [] w' := curveTells_run x0 x1 w l0 l1
namespace curveTells
open Go.ChangeShapes Go.WideShapes Go.ChangeAt Go.RowKit Go.Sym
theorem own : ownKnob Try.prog.godebug = none := by kernel_rfl
theorem laidOut : laidOutB Try.prog = true := by kernel_rfl
set_option maxRecDepth 100000 in
theorem lifted (os : Os) (started : os.Started) (H : Type) (enc : TypeId × Value → H) :
    ReturnsInHanded {} Try.checked os 3 .any (Rows.curveTellsSpec.pre6 enc Try.prog Try.f3 Rows.curveTellsRow.domain false) (Rows.curveTellsSpec.post enc Try.prog Try.f3 false true false false) := by
  refine returnsInHanded_of_change (C := Try.checked) own started (by kernel_rfl) Try.func3
    (ChangeSpec.witness6 (enc := enc) (C := Try.checked) false ⟨#[], #[.agg #[.int .u8 0, .int .u8 0, .int .u8 0, .int .u8 0, .int .u8 0, .int .u8 0, .int .u8 0, .int .u8 0, .int .u8 0, .int .u8 0, .int .u8 0, .int .u8 0, .int .u8 0, .int .u8 0, .int .u8 0, .int .u8 0, .int .u8 0, .int .u8 0, .int .u8 0, .int .u8 0, .int .u8 0, .int .u8 0, .int .u8 0, .int .u8 0, .int .u8 0, .int .u8 0, .int .u8 0, .int .u8 0, .int .u8 0, .int .u8 0, .int .u8 0, .int .u8 0], .agg #[.int .u8 0, .int .u8 0, .int .u8 0, .int .u8 0, .int .u8 0, .int .u8 0, .int .u8 0, .int .u8 0, .int .u8 0, .int .u8 0, .int .u8 0, .int .u8 0, .int .u8 0, .int .u8 0, .int .u8 0, .int .u8 0, .int .u8 0, .int .u8 0, .int .u8 0, .int .u8 0, .int .u8 0, .int .u8 0, .int .u8 0, .int .u8 0, .int .u8 0, .int .u8 0, .int .u8 0, .int .u8 0, .int .u8 0, .int .u8 0, .int .u8 0, .int .u8 0]], []⟩ 8 (by kernel_rfl) (by kernel_rfl) (by kernel_rfl) (by kernel_rfl)) ?_
  intro W base args ds gs before hval0 hW hcnd _
  have hval : ∀ (j : Nat) t v, Try.f3.params[j]? = some t → args[j]? = some v → Value.okWide Try.prog W .any base t v := hval0
  have hW' := hW
  obtain ⟨p, q, hA0, hV, rfl, hfz, hnd⟩ := hW
  have hA : DataW.TrodAll enc Try.prog W 0 (fun _ => true) true Try.f3.params.toList args.toList ds p := hA0
  rw [Try.params3] at hA hval
  obtain ⟨v0, vs0, d0, ds0, p0, q0, hargs, rfl, rfl, h0, r0⟩ := trodAll_cons hA
  obtain ⟨v1, vs1, d1, ds1, p1, q1, rfl, rfl, rfl, h1, r1⟩ := trodAll_cons r0
  obtain ⟨rfl, rfl, rfl⟩ := trodAll_nil r1
  obtain rfl : args = #[v0, v1] := by cases args; simp_all
  obtain ⟨rfl, rfl⟩ := trodVars_none hV
  have k0 := h0
  have lt0 : ∀ x ∈ p0, x.block < W.heap.size := by obtain ⟨m, hm⟩ := k0; exact DataW.trod_lt m _ _ _ hm
  obtain ⟨x0, l0, rfl⟩ := open_bytesArr Try.underlying23 Try.underlying5 (by kernel_rfl) (by kernel_rfl) (hval 0 23 v0 rfl rfl) h0
  have k1 := h1
  have lt1 : ∀ x ∈ p1, x.block < W.heap.size := by obtain ⟨m, hm⟩ := k1; exact DataW.trod_lt m _ _ _ hm
  obtain ⟨x1, l1, rfl⟩ := open_bytesArr Try.underlying23 Try.underlying5 (by kernel_rfl) (by kernel_rfl) (hval 1 23 v1 rfl rfl) h1
  clear hA0 hval0
  refine (curveTells_walk x0 x1 W l0 l1).mono fun e W' ⟨he, hp⟩ => ?_
  have bel : Below W.heap.size W W' := hp.below
  subst he
  exact ⟨_, rfl, _, _, _, [], _, [], hW', trodAll_mk1 (shut_bool Try.underlying4 _), (trodAll_cons_mk (Below.trod laidOut (by kernel_rfl) (of_decide_eq_true (by kernel_rfl)) k0 bel lt0) (trodAll_cons_mk (Below.trod laidOut (by kernel_rfl) (of_decide_eq_true (by kernel_rfl)) k1 bel lt1) trodAll_mk0)), rfl, bel.frame _, fun h => by cases h⟩
theorem over : Rows.curveTellsRow.holds Try.pinned (OpenSpec.ofChange Rows.curveTellsSpec) :=
  OpenClaim.holds_of_wide 3 Try.f3 rfl rfl rfl rfl rfl rfl rfl ⟨rfl, rfl, rfl, rfl, rfl⟩ rfl rfl rfl rfl rfl (by kernel_rfl) Try.func3 (by kernel_rfl)
    (of_decide_eq_true (by kernel_rfl)) (by unfold Func.isWrapper; first | (rw [if_pos (by decide +kernel)]; kernel_rfl) | (rw [if_neg (by decide +kernel)]; exact ⟨rfl, rfl⟩))
    (fun os started H enc _ => lifted os started H enc)
end curveTells
/-- The statement. -/
theorem curveTellsProved : Rows.CurveTellsSaid := curveTells.over
end Go.Proofs.Ytgkndcincgpmdaa
