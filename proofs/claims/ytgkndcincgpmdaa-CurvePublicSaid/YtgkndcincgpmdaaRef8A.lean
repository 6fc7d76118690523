/-
  Contracts of hatchwayref08: step. (Printed by a program of this session over its walk printer.)
-/
import Derived.Test.YtgkndcincgpmdaaRef7B
namespace Go.Proofs.Ytgkndcincgpmdaa
open Go.Sym Plain
set_option linter.unusedVariables false
set_option maxRecDepth 20000

set_option maxHeartbeats 1000000 in
theorem rstep_any (pu p1 p2 p3 p4 : Option Addr) (cu c1 c2 c3 c4 U X1 Z1 X2 Z2 : Nat) (w : World) (hu : Nums w pu (dig U).length cu (dig U)) (hx1 : Nums w p1 (dig X1).length c1 (dig X1)) (hz1 : Nums w p2 (dig Z1).length c2 (dig Z1)) (hx2 : Nums w p3 (dig X2).length c3 (dig X2)) (hz2 : Nums w p4 (dig Z2).length c4 (dig Z2))
    (lu : U < FP) (lx1 : X1 < FP) (lz1 : Z1 < FP) (lx2 : X2 < FP) (lz2 : Z2 < FP) :
    Calls Try.prog 26 [.slice pu (dig U).length cu, .agg #[.slice p1 (dig X1).length c1, .slice p2 (dig Z1).length c2], .agg #[.slice p3 (dig X2).length c3, .slice p4 (dig Z2).length c4]].toArray w fun r w' => ∃ x : Rw × Rw × Rw × Rw,
      r = .returned (.tuple #[.agg #[x.1.v (dblN ⟨X1, Z1⟩).x, x.2.1.v (dblN ⟨X1, Z1⟩).z], .agg #[x.2.2.1.v (addN U ⟨X1, Z1⟩ ⟨X2, Z2⟩).x, x.2.2.2.v (addN U ⟨X1, Z1⟩ ⟨X2, Z2⟩).z]]) ∧
      Hp w [] [x.2.2.2.e 3 (addN U ⟨X1, Z1⟩ ⟨X2, Z2⟩).z, x.2.2.1.e 3 (addN U ⟨X1, Z1⟩ ⟨X2, Z2⟩).x, x.2.1.e 3 (dblN ⟨X1, Z1⟩).z, x.1.e 3 (dblN ⟨X1, Z1⟩).x] w' ∧
      (x.1.ok (dblN ⟨X1, Z1⟩).x ∧ x.2.1.ok (dblN ⟨X1, Z1⟩).z ∧ x.2.2.1.ok (addN U ⟨X1, Z1⟩ ⟨X2, Z2⟩).x ∧ x.2.2.2.ok (addN U ⟨X1, Z1⟩ ⟨X2, Z2⟩).z) := by
  obtain ⟨na, hna⟩ : ∃ v, v = fadd X1 Z1 := ⟨_, rfl⟩
  have lna : na < FP := by rw [hna]; exact fadd_lt _ _
  obtain ⟨nb, hnb⟩ : ∃ v, v = fsub X1 Z1 := ⟨_, rfl⟩
  have lnb : nb < FP := by rw [hnb]; exact fsub_lt _ _
  obtain ⟨naa, hnaa⟩ : ∃ v, v = fmul na na := ⟨_, rfl⟩
  have lnaa : naa < FP := by rw [hnaa]; exact fmul_lt _ _
  obtain ⟨nbb, hnbb⟩ : ∃ v, v = fmul nb nb := ⟨_, rfl⟩
  have lnbb : nbb < FP := by rw [hnbb]; exact fmul_lt _ _
  obtain ⟨ne, hne⟩ : ∃ v, v = fsub naa nbb := ⟨_, rfl⟩
  have lne : ne < FP := by rw [hne]; exact fsub_lt _ _
  obtain ⟨nd1, hnd1⟩ : ∃ v, v = fsub X2 Z2 := ⟨_, rfl⟩
  have lnd1 : nd1 < FP := by rw [hnd1]; exact fsub_lt _ _
  obtain ⟨nda, hnda⟩ : ∃ v, v = fmul nd1 na := ⟨_, rfl⟩
  have lnda : nda < FP := by rw [hnda]; exact fmul_lt _ _
  obtain ⟨ns1, hns1⟩ : ∃ v, v = fadd X2 Z2 := ⟨_, rfl⟩
  have lns1 : ns1 < FP := by rw [hns1]; exact fadd_lt _ _
  obtain ⟨ncb, hncb⟩ : ∃ v, v = fmul ns1 nb := ⟨_, rfl⟩
  have lncb : ncb < FP := by rw [hncb]; exact fmul_lt _ _
  obtain ⟨nx3, hnx3⟩ : ∃ v, v = fadd nda ncb := ⟨_, rfl⟩
  have lnx3 : nx3 < FP := by rw [hnx3]; exact fadd_lt _ _
  obtain ⟨nz3, hnz3⟩ : ∃ v, v = fsub nda ncb := ⟨_, rfl⟩
  have lnz3 : nz3 < FP := by rw [hnz3]; exact fsub_lt _ _
  obtain ⟨nt1, hnt1⟩ : ∃ v, v = fmul 121665 ne := ⟨_, rfl⟩
  have lnt1 : nt1 < FP := by rw [hnt1]; exact fmul_lt _ _
  obtain ⟨nm, hnm⟩ : ∃ v, v = fadd naa nt1 := ⟨_, rfl⟩
  have lnm : nm < FP := by rw [hnm]; exact fadd_lt _ _
  obtain ⟨rx1, hrx1⟩ : ∃ v, v = fmul naa nbb := ⟨_, rfl⟩
  have lrx1 : rx1 < FP := by rw [hrx1]; exact fmul_lt _ _
  obtain ⟨rz1, hrz1⟩ : ∃ v, v = fmul ne nm := ⟨_, rfl⟩
  have lrz1 : rz1 < FP := by rw [hrz1]; exact fmul_lt _ _
  obtain ⟨rx2, hrx2⟩ : ∃ v, v = fmul nx3 nx3 := ⟨_, rfl⟩
  have lrx2 : rx2 < FP := by rw [hrx2]; exact fmul_lt _ _
  obtain ⟨nt2, hnt2⟩ : ∃ v, v = fmul nz3 nz3 := ⟨_, rfl⟩
  have lnt2 : nt2 < FP := by rw [hnt2]; exact fmul_lt _ _
  obtain ⟨rz2, hrz2⟩ : ∃ v, v = fmul U nt2 := ⟨_, rfl⟩
  have lrz2 : rz2 < FP := by rw [hrz2]; exact fmul_lt _ _
  have hD : dblN ⟨X1, Z1⟩ = ⟨rx1, rz1⟩ := by rw [dblN_ref]; simp only; rw [← hna, ← hnb, ← hnaa, ← hnbb, ← hne, ← hnt1, ← hnm, ← hrx1, ← hrz1]
  have hA : addN U ⟨X1, Z1⟩ ⟨X2, Z2⟩ = ⟨rx2, rz2⟩ := by rw [addN_ref]; simp only; rw [← hna, ← hnb, ← hnd1, ← hnda, ← hns1, ← hncb, ← hnx3, ← hnz3, ← hrx2, ← hnt2, ← hrz2]
  have la24 : 121665 < FP := by decide
  refine Tr.enter Try.func26 rfl Try.ntmps26 rfl (Hp.refl w) ?_
  refine Tr.seq ?_
  refine Tr.region ?_
  refine Tr.op (W.box (cs := [.slice p1 (dig X1).length c1, .slice p2 (dig Z1).length c2]) rfl rfl rfl fun g4 => ?_)
  refine Tr.op (W.box (cs := [.slice p3 (dig X2).length c3, .slice p4 (dig Z2).length c4]) rfl rfl rfl fun g5 => ?_)
  refine Tr.op (W.alloc (cs := [.slice none 0 0, .slice none 0 0]) Try.zeroValue56 rfl rfl fun g6 => ?_)
  refine Tr.op (W.alloc (cs := [.slice none 0 0, .slice none 0 0]) Try.zeroValue56 rfl rfl fun g7 => ?_)
  refine Tr.lNil ?_
  refine Tr.thenN ?_
  refine Tr.seq ?_
  refine Tr.region ?_
  refine Tr.val (V.fieldS (o' := 0) Try.runUnderlying56 rfl rfl Try.sizeOf53 (by omega) rfl) rfl ?_
  refine Tr.val (V.load1 Try.isAgg53 rfl (V.cellB (by repeat (first | exact List.Mem.head _ | apply List.Mem.tail)) rfl)) rfl ?_
  refine Tr.val (V.fieldS (o' := 1) Try.runUnderlying56 rfl rfl Try.sizeOf53 (by omega) rfl) rfl ?_
  refine Tr.val (V.load1 Try.isAgg53 rfl (V.cellB (by repeat (first | exact List.Mem.head _ | apply List.Mem.tail)) rfl)) rfl ?_
  refine Tr.op (W.callNum (N := na)  (args2 rfl rfl) Try.call44 rfl (fun w1 hw => by have h := radd_any p1 p2 c1 c2 X1 Z1 w1 (hx1.now hw) (hz1.now hw) lx1 lz1; rw [← hna] at h; exact h) fun g22 c22 junk22 hc22 => ?_)
  refine Tr.val (V.assign rfl) rfl ?_
  refine Tr.lNil ?_
  refine Tr.thenN ?_
  refine Tr.seq ?_
  refine Tr.region ?_
  refine Tr.val (V.fieldS (o' := 0) Try.runUnderlying56 rfl rfl Try.sizeOf53 (by omega) rfl) rfl ?_
  refine Tr.val (V.load1 Try.isAgg53 rfl (V.cellB (by repeat (first | exact List.Mem.head _ | apply List.Mem.tail)) rfl)) rfl ?_
  refine Tr.val (V.fieldS (o' := 1) Try.runUnderlying56 rfl rfl Try.sizeOf53 (by omega) rfl) rfl ?_
  refine Tr.val (V.load1 Try.isAgg53 rfl (V.cellB (by repeat (first | exact List.Mem.head _ | apply List.Mem.tail)) rfl)) rfl ?_
  refine Tr.op (W.callNum (N := nb)  (args2 rfl rfl) Try.call45 rfl (fun w1 hw => by have h := rsub_any p1 p2 c1 c2 X1 Z1 w1 (hx1.now hw) (hz1.now hw) lx1 lz1; rw [← hnb] at h; exact h) fun g27 c27 junk27 hc27 => ?_)
  refine Tr.val (V.assign rfl) rfl ?_
  refine Tr.lNil ?_
  refine Tr.thenN ?_
  refine Tr.seq ?_
  refine Tr.region ?_
  refine Tr.val (V.move rfl) rfl ?_
  refine Tr.val (V.move rfl) rfl ?_
  refine Tr.op (W.callNum (N := naa)  (args2 rfl rfl) Try.call28 rfl (fun w1 hw => by have h := rmul_any (some ⟨g22, 0, none⟩) (some ⟨g22, 0, none⟩) c22 c22 na na w1 (Nums.own hw (by repeat (first | exact List.Mem.head _ | apply List.Mem.tail)) rfl hc22) (Nums.own hw (by repeat (first | exact List.Mem.head _ | apply List.Mem.tail)) rfl hc22) lna lna; rw [← hnaa] at h; exact h) fun g30 c30 junk30 hc30 => ?_)
  refine Tr.val (V.assign rfl) rfl ?_
  refine Tr.lNil ?_
  refine Tr.thenN ?_
  refine Tr.seq ?_
  refine Tr.region ?_
  refine Tr.val (V.move rfl) rfl ?_
  refine Tr.val (V.move rfl) rfl ?_
  refine Tr.op (W.callNum (N := nbb)  (args2 rfl rfl) Try.call28 rfl (fun w1 hw => by have h := rmul_any (some ⟨g27, 0, none⟩) (some ⟨g27, 0, none⟩) c27 c27 nb nb w1 (Nums.own hw (by repeat (first | exact List.Mem.head _ | apply List.Mem.tail)) rfl hc27) (Nums.own hw (by repeat (first | exact List.Mem.head _ | apply List.Mem.tail)) rfl hc27) lnb lnb; rw [← hnbb] at h; exact h) fun g33 c33 junk33 hc33 => ?_)
  refine Tr.val (V.assign rfl) rfl ?_
  refine Tr.lNil ?_
  refine Tr.thenN ?_
  refine Tr.seq ?_
  refine Tr.region ?_
  refine Tr.val (V.move rfl) rfl ?_
  refine Tr.val (V.move rfl) rfl ?_
  refine Tr.op (W.callNum (N := ne)  (args2 rfl rfl) Try.call45 rfl (fun w1 hw => by have h := rsub_any (some ⟨g30, 0, none⟩) (some ⟨g33, 0, none⟩) c30 c33 naa nbb w1 (Nums.own hw (by repeat (first | exact List.Mem.head _ | apply List.Mem.tail)) rfl hc30) (Nums.own hw (by repeat (first | exact List.Mem.head _ | apply List.Mem.tail)) rfl hc33) lnaa lnbb; rw [← hne] at h; exact h) fun g36 c36 junk36 hc36 => ?_)
  refine Tr.val (V.assign rfl) rfl ?_
  refine Tr.lNil ?_
  refine Tr.thenN ?_
  refine Tr.seq ?_
  refine Tr.region ?_
  refine Tr.val (V.fieldS (o' := 0) Try.runUnderlying56 rfl rfl Try.sizeOf53 (by omega) rfl) rfl ?_
  refine Tr.val (V.load1 Try.isAgg53 rfl (V.cellB (by repeat (first | exact List.Mem.head _ | apply List.Mem.tail)) rfl)) rfl ?_
  refine Tr.val (V.fieldS (o' := 1) Try.runUnderlying56 rfl rfl Try.sizeOf53 (by omega) rfl) rfl ?_
  refine Tr.val (V.load1 Try.isAgg53 rfl (V.cellB (by repeat (first | exact List.Mem.head _ | apply List.Mem.tail)) rfl)) rfl ?_
  refine Tr.op (W.callNum (N := nd1)  (args2 rfl rfl) Try.call45 rfl (fun w1 hw => by have h := rsub_any p3 p4 c3 c4 X2 Z2 w1 (hx2.now hw) (hz2.now hw) lx2 lz2; rw [← hnd1] at h; exact h) fun g41 c41 junk41 hc41 => ?_)
  refine Tr.val (V.move rfl) rfl ?_
  refine Tr.op (W.callNum (N := nda)  (args2 rfl rfl) Try.call28 rfl (fun w1 hw => by have h := rmul_any (some ⟨g41, 0, none⟩) (some ⟨g22, 0, none⟩) c41 c22 nd1 na w1 (Nums.own hw (by repeat (first | exact List.Mem.head _ | apply List.Mem.tail)) rfl hc41) (Nums.own hw (by repeat (first | exact List.Mem.head _ | apply List.Mem.tail)) rfl hc22) lnd1 lna; rw [← hnda] at h; exact h) fun g43 c43 junk43 hc43 => ?_)
  refine Tr.val (V.assign rfl) rfl ?_
  refine Tr.lNil ?_
  refine Tr.thenN ?_
  refine Tr.seq ?_
  refine Tr.region ?_
  refine Tr.val (V.fieldS (o' := 0) Try.runUnderlying56 rfl rfl Try.sizeOf53 (by omega) rfl) rfl ?_
  refine Tr.val (V.load1 Try.isAgg53 rfl (V.cellB (by repeat (first | exact List.Mem.head _ | apply List.Mem.tail)) rfl)) rfl ?_
  refine Tr.val (V.fieldS (o' := 1) Try.runUnderlying56 rfl rfl Try.sizeOf53 (by omega) rfl) rfl ?_
  refine Tr.val (V.load1 Try.isAgg53 rfl (V.cellB (by repeat (first | exact List.Mem.head _ | apply List.Mem.tail)) rfl)) rfl ?_
  refine Tr.op (W.callNum (N := ns1)  (args2 rfl rfl) Try.call44 rfl (fun w1 hw => by have h := radd_any p3 p4 c3 c4 X2 Z2 w1 (hx2.now hw) (hz2.now hw) lx2 lz2; rw [← hns1] at h; exact h) fun g48 c48 junk48 hc48 => ?_)
  refine Tr.val (V.move rfl) rfl ?_
  refine Tr.op (W.callNum (N := ncb)  (args2 rfl rfl) Try.call28 rfl (fun w1 hw => by have h := rmul_any (some ⟨g48, 0, none⟩) (some ⟨g27, 0, none⟩) c48 c27 ns1 nb w1 (Nums.own hw (by repeat (first | exact List.Mem.head _ | apply List.Mem.tail)) rfl hc48) (Nums.own hw (by repeat (first | exact List.Mem.head _ | apply List.Mem.tail)) rfl hc27) lns1 lnb; rw [← hncb] at h; exact h) fun g50 c50 junk50 hc50 => ?_)
  refine Tr.val (V.assign rfl) rfl ?_
  refine Tr.lNil ?_
  refine Tr.thenN ?_
  refine Tr.seq ?_
  refine Tr.region ?_
  refine Tr.val (V.move rfl) rfl ?_
  refine Tr.val (V.move rfl) rfl ?_
  refine Tr.op (W.callNum (N := nx3)  (args2 rfl rfl) Try.call44 rfl (fun w1 hw => by have h := radd_any (some ⟨g43, 0, none⟩) (some ⟨g50, 0, none⟩) c43 c50 nda ncb w1 (Nums.own hw (by repeat (first | exact List.Mem.head _ | apply List.Mem.tail)) rfl hc43) (Nums.own hw (by repeat (first | exact List.Mem.head _ | apply List.Mem.tail)) rfl hc50) lnda lncb; rw [← hnx3] at h; exact h) fun g53 c53 junk53 hc53 => ?_)
  refine Tr.val (V.assign rfl) rfl ?_
  refine Tr.lNil ?_
  refine Tr.thenN ?_
  refine Tr.seq ?_
  refine Tr.region ?_
  refine Tr.val (V.move rfl) rfl ?_
  refine Tr.val (V.move rfl) rfl ?_
  refine Tr.op (W.callNum (N := nz3)  (args2 rfl rfl) Try.call45 rfl (fun w1 hw => by have h := rsub_any (some ⟨g43, 0, none⟩) (some ⟨g50, 0, none⟩) c43 c50 nda ncb w1 (Nums.own hw (by repeat (first | exact List.Mem.head _ | apply List.Mem.tail)) rfl hc43) (Nums.own hw (by repeat (first | exact List.Mem.head _ | apply List.Mem.tail)) rfl hc50) lnda lncb; rw [← hnz3] at h; exact h) fun g56 c56 junk56 hc56 => ?_)
  refine Tr.val (V.assign rfl) rfl ?_
  refine Tr.lNil ?_
  refine Tr.thenN ?_
  refine Tr.seq ?_
  refine Tr.region ?_
  refine Tr.val (V.move rfl) rfl ?_
  refine Tr.op (W.build (vs := [NV 65, NV 219, NV 1]) elem53 (fun a _ => by simp [Act.eval, List.range'_succ]) rfl (by simp [Value.cells]) (by omega) rfl fun g58 => ?_)
  rw [show (⟨g58, 3, [NV 65, NV 219, NV 1]⟩ : Ent) = ⟨g58, 3, (dig 121665).map NV ++ []⟩ by rw [dig_a24]; rfl, show (Value.slice (some ⟨g58, 0, none⟩) 3 3) = .slice (some ⟨g58, 0, none⟩) (dig 121665).length 3 by rw [dig_a24]; rfl]
  refine Tr.val (V.move rfl) rfl ?_
  refine Tr.op (W.callNum (N := nt1)  (args2 rfl rfl) Try.call28 rfl (fun w1 hw => by have h := rmul_any (some ⟨g58, 0, none⟩) (some ⟨g36, 0, none⟩) 3 c36 121665 ne w1 (Nums.own (junk := []) hw (by repeat (first | exact List.Mem.head _ | apply List.Mem.tail)) rfl (by rw [dig_a24]; rfl)) (Nums.own hw (by repeat (first | exact List.Mem.head _ | apply List.Mem.tail)) rfl hc36) la24 lne; rw [← hnt1] at h; exact h) fun g60 c60 junk60 hc60 => ?_)
  refine Tr.op (W.callNum (N := nm)  (args2 rfl rfl) Try.call44 rfl (fun w1 hw => by have h := radd_any (some ⟨g30, 0, none⟩) (some ⟨g60, 0, none⟩) c30 c60 naa nt1 w1 (Nums.own hw (by repeat (first | exact List.Mem.head _ | apply List.Mem.tail)) rfl hc30) (Nums.own hw (by repeat (first | exact List.Mem.head _ | apply List.Mem.tail)) rfl hc60) lnaa lnt1; rw [← hnm] at h; exact h) fun g61 c61 junk61 hc61 => ?_)
  refine Tr.val (V.assign rfl) rfl ?_
  refine Tr.lNil ?_
  refine Tr.thenN ?_
  refine Tr.seq ?_
  refine Tr.region ?_
  refine Tr.val (V.move rfl) rfl ?_
  refine Tr.val (V.move rfl) rfl ?_
  refine Tr.op (W.callNum (N := rx1)  (args2 rfl rfl) Try.call28 rfl (fun w1 hw => by have h := rmul_any (some ⟨g30, 0, none⟩) (some ⟨g33, 0, none⟩) c30 c33 naa nbb w1 (Nums.own hw (by repeat (first | exact List.Mem.head _ | apply List.Mem.tail)) rfl hc30) (Nums.own hw (by repeat (first | exact List.Mem.head _ | apply List.Mem.tail)) rfl hc33) lnaa lnbb; rw [← hrx1] at h; exact h) fun g64 c64 junk64 hc64 => ?_)
  refine Tr.val (V.move rfl) rfl ?_
  refine Tr.val (V.move rfl) rfl ?_
  refine Tr.op (W.callNum (N := rz1)  (args2 rfl rfl) Try.call28 rfl (fun w1 hw => by have h := rmul_any (some ⟨g36, 0, none⟩) (some ⟨g61, 0, none⟩) c36 c61 ne nm w1 (Nums.own hw (by repeat (first | exact List.Mem.head _ | apply List.Mem.tail)) rfl hc36) (Nums.own hw (by repeat (first | exact List.Mem.head _ | apply List.Mem.tail)) rfl hc61) lne lnm; rw [← hrz1] at h; exact h) fun g67 c67 junk67 hc67 => ?_)
  refine Tr.val ((V.buildS (vs := [(0, .slice (some ⟨g64, 0, none⟩) (dig rx1).length c64), (1, .slice (some ⟨g67, 0, none⟩) (dig rz1).length c67)]) (pl := #[(0, 1), (1, 1)]) (cs := [.slice (some ⟨g64, 0, none⟩) (dig rx1).length c64, .slice (some ⟨g67, 0, none⟩) (dig rz1).length c67].toArray) Try.runUnderlying56 Try.zeroValue56 (fun w => by simp [Try.sizeOf53]) (fun a he => by simp [he.eval (x := .tmp 64) (v := .slice (some ⟨g64, 0, none⟩) (dig rx1).length c64) rfl, he.eval (x := .tmp 67) (v := .slice (some ⟨g67, 0, none⟩) (dig rz1).length c67) rfl]) rfl)) rfl ?_
  refine Tr.val (V.move rfl) rfl ?_
  refine Tr.val (V.move rfl) rfl ?_
  refine Tr.op (W.callNum (N := rx2)  (args2 rfl rfl) Try.call28 rfl (fun w1 hw => by have h := rmul_any (some ⟨g53, 0, none⟩) (some ⟨g53, 0, none⟩) c53 c53 nx3 nx3 w1 (Nums.own hw (by repeat (first | exact List.Mem.head _ | apply List.Mem.tail)) rfl hc53) (Nums.own hw (by repeat (first | exact List.Mem.head _ | apply List.Mem.tail)) rfl hc53) lnx3 lnx3; rw [← hrx2] at h; exact h) fun g71 c71 junk71 hc71 => ?_)
  refine Tr.val (V.move rfl) rfl ?_
  refine Tr.val (V.move rfl) rfl ?_
  refine Tr.val (V.move rfl) rfl ?_
  refine Tr.op (W.callNum (N := nt2)  (args2 rfl rfl) Try.call28 rfl (fun w1 hw => by have h := rmul_any (some ⟨g56, 0, none⟩) (some ⟨g56, 0, none⟩) c56 c56 nz3 nz3 w1 (Nums.own hw (by repeat (first | exact List.Mem.head _ | apply List.Mem.tail)) rfl hc56) (Nums.own hw (by repeat (first | exact List.Mem.head _ | apply List.Mem.tail)) rfl hc56) lnz3 lnz3; rw [← hnt2] at h; exact h) fun g75 c75 junk75 hc75 => ?_)
  refine Tr.op (W.callNum (N := rz2)  (args2 rfl rfl) Try.call28 rfl (fun w1 hw => by have h := rmul_any pu (some ⟨g75, 0, none⟩) cu c75 U nt2 w1 (hu.now hw) (Nums.own hw (by repeat (first | exact List.Mem.head _ | apply List.Mem.tail)) rfl hc75) lu lnt2; rw [← hrz2] at h; exact h) fun g76 c76 junk76 hc76 => ?_)
  refine Tr.val ((V.buildS (vs := [(0, .slice (some ⟨g71, 0, none⟩) (dig rx2).length c71), (1, .slice (some ⟨g76, 0, none⟩) (dig rz2).length c76)]) (pl := #[(0, 1), (1, 1)]) (cs := [.slice (some ⟨g71, 0, none⟩) (dig rx2).length c71, .slice (some ⟨g76, 0, none⟩) (dig rz2).length c76].toArray) Try.runUnderlying56 Try.zeroValue56 (fun w => by simp [Try.sizeOf53]) (fun a he => by simp [he.eval (x := .tmp 71) (v := .slice (some ⟨g71, 0, none⟩) (dig rx2).length c71) rfl, he.eval (x := .tmp 76) (v := .slice (some ⟨g76, 0, none⟩) (dig rz2).length c76) rfl]) rfl)) rfl ?_
  refine Tr.op (W.storeAll (vs := [.slice (some ⟨g64, 0, none⟩) (dig rx1).length c64, .slice (some ⟨g67, 0, none⟩) (dig rz1).length c67]) (cs := [.slice none 0 0, .slice none 0 0]) Try.sizeOf56 rfl rfl rfl rfl (by simp [Value.oneCell']) (by repeat (first | exact Upd.head | apply Upd.tail)) ?_)
  refine Tr.op (W.storeAll (vs := [.slice (some ⟨g71, 0, none⟩) (dig rx2).length c71, .slice (some ⟨g76, 0, none⟩) (dig rz2).length c76]) (cs := [.slice none 0 0, .slice none 0 0]) Try.sizeOf56 rfl rfl rfl rfl (by simp [Value.oneCell']) (by repeat (first | exact Upd.head | apply Upd.tail)) ?_)
  refine Tr.lNil ?_
  refine Tr.thenN ?_
  refine Tr.ret ?_
  refine Tr.out2 rfl (Res.cellN (cs := [.slice (some ⟨g64, 0, none⟩) (dig rx1).length c64, .slice (some ⟨g67, 0, none⟩) (dig rz1).length c67]) rfl Try.isAgg56 Try.sizeOf56 (by repeat (first | exact List.Mem.head _ | apply List.Mem.tail))) (Res.cellN (cs := [.slice (some ⟨g71, 0, none⟩) (dig rx2).length c71, .slice (some ⟨g76, 0, none⟩) (dig rz2).length c76]) rfl Try.isAgg56 Try.sizeOf56 (by repeat (first | exact List.Mem.head _ | apply List.Mem.tail))) fun w hw => ?_
  refine ⟨(⟨g64, c64, junk64⟩, ⟨g67, c67, junk67⟩, ⟨g71, c71, junk71⟩, ⟨g76, c76, junk76⟩), ?_⟩
  rw [hD, hA]
  refine ⟨rfl, ?_, hc64, hc67, hc71, hc76⟩
  exact hw.sub (.cons_cons _ (.cons _ (.cons_cons _ (.cons_cons _ (.cons_cons _ (List.nil_sublist _))))))

end Go.Proofs.Ytgkndcincgpmdaa
