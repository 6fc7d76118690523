/-
  Contracts of hatchwayref03: Parts, Mod. (Printed by a program of this session over its walk printer.)
-/
import Derived.Test.YtgkndcincgpmdaaRef3A
namespace Go.Proofs.Ytgkndcincgpmdaa
open Go.Sym Plain
set_option linter.unusedVariables false
set_option maxRecDepth 20000

theorem parts3_any (p : Option Addr) (m c n q r : Nat) (xs : List Nat) (w : World) (hx : Nums w p m c xs) (hm : m ≤ 100000) (hd : Digs xs) (hn : n = 8 * q + r) (hr : r < 8) (hq : q ≤ 100000) :
    Calls Try.prog 41 [.slice p m c, NV n].toArray w (NumOut2 3 w (num xs % 2 ^ n) (num xs / 2 ^ n)) := by
  have hxl := hx.length
  have hle := hx.le
  have hnq : n / 8 = q := by omega
  have hnr : n % 8 = r := by omega
  refine Tr.enter Try.func41 rfl Try.ntmps41 rfl (Hp.refl w) ?_
  refine Tr.seq ?_
  refine Tr.region ?_
  refine Tr.val (V.assign rfl) rfl ?_
  refine Tr.val (V.assign rfl) rfl ?_
  refine Tr.lNil ?_
  refine Tr.thenN ?_
  refine Tr.seq ?_
  refine Tr.region ?_
  refine Tr.op (W.build elem53 W.parts0 rfl (by simp) (by omega) rfl fun g12 => ?_)
  refine Tr.val (V.assign rfl) rfl ?_
  refine Tr.lNil ?_
  refine Tr.thenN ?_
  refine Tr.seq ?_
  refine Tr.region ?_
  refine Tr.op (W.build elem53 W.parts0 rfl (by simp) (by omega) rfl fun g13 => ?_)
  refine Tr.val (V.assign rfl) rfl ?_
  refine Tr.lNil ?_
  refine Tr.thenN ?_
  refine Tr.seq ?_
  refine Tr.region ?_
  refine Tr.val (V.move rfl) rfl ?_
  refine Tr.val ((by rw [← hnq]; exact V.quoN (b := 8) rfl rfl (by omega) (by omega) : VOp Try.prog _ _ _ _ _ _ _ (NV q))) rfl ?_
  refine Tr.val (V.assign rfl) rfl ?_
  refine Tr.lNil ?_
  refine Tr.thenN ?_
  refine Tr.seq ?_
  refine Tr.region ?_
  refine Tr.val (V.move rfl) rfl ?_
  refine Tr.val ((by rw [← hnr]; exact V.remN (b := 8) rfl rfl (by omega) : VOp Try.prog _ _ _ _ _ _ _ (NV r))) rfl ?_
  refine Tr.val (V.assign rfl) rfl ?_
  refine Tr.lNil ?_
  refine Tr.thenN ?_
  refine Tr.seq ?_
  refine Tr.seq ?_
  refine Tr.region ?_
  refine Tr.val (V.assign rfl) rfl ?_
  refine Tr.lNil ?_
  refine Tr.thenN ?_
  refine Tr.block ?_
  refine Tr.loop (ι := Nat × (Nat × Nat × List Value) × (Nat × Nat × List Value)) (fun x => x.1 ≤ m ∧ ((lowP q r xs x.1).map NV ++ x.2.1.2.2).length = x.2.1.2.1 ∧ ((highP q r xs x.1).map NV ++ x.2.2.2.2).length = x.2.2.2.1) (fun x => [(0, .slice p m c), (6, .slice (some ⟨x.2.1.1, 0, none⟩) (lowP q r xs x.1).length x.2.1.2.1), (7, .slice (some ⟨x.2.2.1, 0, none⟩) (highP q r xs x.1).length x.2.2.2.1), (8, NV q), (9, NV r), (10, NV x.1)]) (fun x => [⟨x.2.2.1, 3, (highP q r xs x.1).map NV ++ x.2.2.2.2⟩, ⟨x.2.1.1, 3, (lowP q r xs x.1).map NV ++ x.2.1.2.2⟩]) (fun x => m - x.1) (0, (g12, 0, []), (g13, 0, [])) ⟨Nat.zero_le _, by simp [lowP], by simp [highP]⟩ (lk_cons rfl (lk_cons (by simp [lowP]; rfl) (lk_cons (by simp [highP]; rfl) (lk_cons rfl (lk_cons rfl (lk_cons rfl (lk_nil _))))))) (by simp [lowP, highP]) fun x hI => ?_
  obtain ⟨i, ⟨gl, cl, jl⟩, ⟨gh, ch, jh⟩⟩ := x
  obtain ⟨him, hkl, hkh⟩ := hI
  simp only at him hkl hkh ⊢
  have h6 : (i < m ∧ i < q) ∨ (i + 1 < m ∧ i = q) ∨ (i + 1 = m ∧ i = q) ∨ (i + 1 < m ∧ q < i) ∨ (i + 1 = m ∧ q < i) ∨ i = m := by omega
  rcases h6 with ⟨him1, hiq⟩ | ⟨him1, hiq⟩ | ⟨him1, hiq⟩ | ⟨him1, hiq⟩ | ⟨him1, hiq⟩ | him1
  · obtain ⟨a, ha⟩ : ∃ a, xs[i]? = some a := ⟨_, List.getElem?_eq_getElem (by omega)⟩
    have haD := hd a (mem_get ha)
    have hp := hx.some (by omega)
    have hadl : a / 2 ^ r ≤ a := Nat.div_le_self _ _
    have hlr : (lowP q r xs i).length ≤ i + 1 := lowP_len q r xs i
    have hhr : (highP q r xs i).length ≤ i := highP_len q r xs i
    have hL : (lowP q r xs i).map NV ++ [NV a] = (lowP q r xs (i + 1)).map NV := by rw [lowP_below q r xs i a hiq ha, List.map_append]; rfl
    have hLl : (lowP q r xs (i + 1)).length = (lowP q r xs i).length + 1 := by rw [lowP_below q r xs i a hiq ha, List.length_append]; rfl
    have hHe : highP q r xs (i + 1) = highP q r xs i := by rw [highP_none q r xs _ (by omega), highP_none q r xs _ (by omega)]
    refine Tr.seq ?_
    refine Tr.seq ?_
    refine Tr.region ?_
    refine Tr.val (V.move rfl) rfl ?_
    refine Tr.val (V.move rfl) rfl ?_
    refine Tr.val (V.len Try.runUnderlying53 rfl) rfl ?_
    refine Tr.val (V.lss (b := true) rfl rfl (decide_eq_true (by omega))) rfl ?_
    refine Tr.lNil ?_
    refine Tr.thenN ?_
    refine Tr.condT rfl ?_
    refine Tr.skip ?_
    refine Tr.thenN ?_
    refine Tr.seq ?_
    refine Tr.block ?_
    refine Tr.seq ?_
    refine Tr.seq ?_
    refine Tr.region ?_
    refine Tr.val (V.move rfl) rfl ?_
    refine Tr.val (V.move rfl) rfl ?_
    refine Tr.val (V.lss (b := true) rfl rfl (decide_eq_true (by omega))) rfl ?_
    refine Tr.lNil ?_
    refine Tr.thenN ?_
    refine Tr.condT rfl ?_
    refine Tr.seq ?_
    refine Tr.region ?_
    refine Tr.val (V.move rfl) rfl ?_
    refine Tr.val (V.move rfl) rfl ?_
    refine Tr.val (V.move rfl) rfl ?_
    refine Tr.val (V.idxS (j := i) Try.runUnderlying53 Try.sizeOf3 rfl rfl (by omega) (by omega) hp) rfl ?_
    refine Tr.val (V.load1 Try.isAgg3 rfl (V.cellR (hx.old) (by rw [List.getElem?_map, ha]; rfl))) rfl ?_
    refine Tr.op (W.build (vs := [NV a]) elem53 (W.parts1 rfl) rfl (by simp [Value.cells]) (by omega) rfl fun g32 => ?_)
    refine Tr.op (W.append (m := (lowP q r xs i).length) (xs := (lowP q r xs i).map NV) (vs := [NV a]) (junk := jl) (L' := fun y => [⟨g32, 3, [NV a]⟩, ⟨gh, 3, (highP q r xs i).map NV ++ jh⟩, y]) elem53 rfl rfl (RdP.blk (cs := [NV a]) (List.Mem.head _) 0 1) rfl (by simp [Value.oneCell']) (fun y => .tail (.tail (.head))) (List.length_map _) hkl (by omega) (by omega) rfl fun gl' cl' jl' hcl' => ?_)
    rw [hL] at hcl' ⊢
    refine Tr.val (V.assign rfl) rfl ?_
    refine Tr.lNil ?_
    refine Tr.thenN ?_
    refine Tr.exit ?_
    refine Tr.thenX ?_
    refine Tr.inHit ?_
    refine Tr.thenN ?_
    refine Tr.region ?_
    refine Tr.val (V.move rfl) rfl ?_
    refine Tr.val (V.add rfl rfl (by omega)) rfl ?_
    refine Tr.val (V.assign rfl) rfl ?_
    refine Tr.lNil ?_
    exact Tr.again (i + 1, (gl', cl', jl'), (gh, ch, jh)) ⟨by simp only; omega, hcl', by simp only; rw [hHe]; exact hkh⟩ (by simp only; omega) (lk_cons rfl (lk_cons (by rw [hLl]; rfl) (lk_cons (by rw [hHe]; rfl) (lk_cons rfl (lk_cons rfl (lk_cons rfl (lk_nil _))))))) (by simp only; rw [hHe]; exact List.sublist_cons_self _ _)
  · obtain ⟨a, ha⟩ : ∃ a, xs[i]? = some a := ⟨_, List.getElem?_eq_getElem (by omega)⟩
    have haD := hd a (mem_get ha)
    have hp := hx.some (by omega)
    have hadl : a / 2 ^ r ≤ a := Nat.div_le_self _ _
    have hlr : (lowP q r xs i).length ≤ i + 1 := lowP_len q r xs i
    have hhr : (highP q r xs i).length ≤ i := highP_len q r xs i
    have hL : (lowP q r xs i).map NV ++ [NV (a % 2 ^ r)] = (lowP q r xs (i + 1)).map NV := by subst hiq; rw [lowP_at i r xs a ha, List.map_append]; rfl
    have hLl : (lowP q r xs (i + 1)).length = (lowP q r xs i).length + 1 := by subst hiq; rw [lowP_at i r xs a ha, List.length_append]; rfl
    obtain ⟨b, hb⟩ : ∃ b, xs[i + 1]? = some b := ⟨_, List.getElem?_eq_getElem (by omega)⟩
    have hbD := hd b (mem_get hb)
    have hb8 : b * 2 ^ (8 - r) ≤ 255 * 256 := Nat.mul_le_mul (by omega) (Nat.le_trans (Nat.pow_le_pow_right (by decide) (show 8 - r ≤ 8 by omega)) (by decide))
    have hH : (highP q r xs i).map NV ++ [NV (a / 2 ^ r + b * 2 ^ (8 - r) % 256)] = (highP q r xs (i + 1)).map NV := by rw [highP_snoc q r xs i (by omega), hiAt_two ha hb, List.map_append]; rfl
    have hHl : (highP q r xs (i + 1)).length = (highP q r xs i).length + 1 := by rw [highP_snoc q r xs i (by omega), List.length_append]; rfl
    refine Tr.seq ?_
    refine Tr.seq ?_
    refine Tr.region ?_
    refine Tr.val (V.move rfl) rfl ?_
    refine Tr.val (V.move rfl) rfl ?_
    refine Tr.val (V.len Try.runUnderlying53 rfl) rfl ?_
    refine Tr.val (V.lss (b := true) rfl rfl (decide_eq_true (by omega))) rfl ?_
    refine Tr.lNil ?_
    refine Tr.thenN ?_
    refine Tr.condT rfl ?_
    refine Tr.skip ?_
    refine Tr.thenN ?_
    refine Tr.seq ?_
    refine Tr.block ?_
    refine Tr.seq ?_
    refine Tr.seq ?_
    refine Tr.region ?_
    refine Tr.val (V.move rfl) rfl ?_
    refine Tr.val (V.move rfl) rfl ?_
    refine Tr.val (V.lss (b := false) rfl rfl (decide_eq_false (by omega))) rfl ?_
    refine Tr.lNil ?_
    refine Tr.thenN ?_
    refine Tr.condF rfl ?_
    refine Tr.skip ?_
    refine Tr.thenN ?_
    refine Tr.seq ?_
    refine Tr.seq ?_
    refine Tr.region ?_
    refine Tr.val (V.move rfl) rfl ?_
    refine Tr.val (V.move rfl) rfl ?_
    refine Tr.val (V.eql (b := true) rfl rfl (decide_eq_true (by omega))) rfl ?_
    refine Tr.lNil ?_
    refine Tr.thenN ?_
    refine Tr.condT rfl ?_
    refine Tr.region ?_
    refine Tr.val (V.move rfl) rfl ?_
    refine Tr.val (V.move rfl) rfl ?_
    refine Tr.val (V.move rfl) rfl ?_
    refine Tr.val (V.idxS (j := i) Try.runUnderlying53 Try.sizeOf3 rfl rfl (by omega) (by omega) hp) rfl ?_
    refine Tr.val (V.load1 Try.isAgg3 rfl (V.cellR (hx.old) (by rw [List.getElem?_map, ha]; rfl))) rfl ?_
    refine Tr.val (V.move rfl) rfl ?_
    refine Tr.val (V.convN_64 Try.runUnderlying3 Try.runUnderlying57 rfl (by omega) (by omega)) rfl ?_
    refine Tr.val (V.shl1 rfl rfl (by omega)) rfl ?_
    refine Tr.val (V.remN rfl rfl (Nat.two_pow_pos r)) rfl ?_
    refine Tr.op (W.build (vs := [NV (a % 2 ^ r)]) elem53 (W.parts1 rfl) rfl (by simp [Value.cells]) (by omega) rfl fun g46 => ?_)
    refine Tr.op (W.append (m := (lowP q r xs i).length) (xs := (lowP q r xs i).map NV) (vs := [NV (a % 2 ^ r)]) (junk := jl) (L' := fun y => [⟨g46, 3, [NV (a % 2 ^ r)]⟩, ⟨gh, 3, (highP q r xs i).map NV ++ jh⟩, y]) elem53 rfl rfl (RdP.blk (cs := [NV (a % 2 ^ r)]) (List.Mem.head _) 0 1) rfl (by simp [Value.oneCell']) (fun y => .tail (.tail (.head))) (List.length_map _) hkl (by omega) (by omega) rfl fun gl' cl' jl' hcl' => ?_)
    rw [hL] at hcl' ⊢
    refine Tr.val (V.assign rfl) rfl ?_
    refine Tr.lNil ?_
    refine Tr.thenN ?_
    refine Tr.seq ?_
    refine Tr.region ?_
    refine Tr.val (V.move rfl) rfl ?_
    refine Tr.val (V.move rfl) rfl ?_
    refine Tr.val (V.idxS (j := i) Try.runUnderlying53 Try.sizeOf3 rfl rfl (by omega) (by omega) hp) rfl ?_
    refine Tr.val (V.load1 Try.isAgg3 rfl (V.cellR (hx.old) (by rw [List.getElem?_map, ha]; rfl))) rfl ?_
    refine Tr.val (V.move rfl) rfl ?_
    refine Tr.val (V.convN_64 Try.runUnderlying3 Try.runUnderlying57 rfl (by omega) (by omega)) rfl ?_
    refine Tr.val (V.shrN rfl rfl (by omega)) rfl ?_
    refine Tr.val (V.assign rfl) rfl ?_
    refine Tr.lNil ?_
    refine Tr.thenN ?_
    refine Tr.seq ?_
    refine Tr.seq ?_
    refine Tr.region ?_
    refine Tr.val (V.move rfl) rfl ?_
    refine Tr.val (V.addN (b := 1) rfl rfl (by omega)) rfl ?_
    refine Tr.val (V.move rfl) rfl ?_
    refine Tr.val (V.len Try.runUnderlying53 rfl) rfl ?_
    refine Tr.val (V.lss (b := true) rfl rfl (decide_eq_true (by omega))) rfl ?_
    refine Tr.lNil ?_
    refine Tr.thenN ?_
    refine Tr.condT rfl ?_
    refine Tr.region ?_
    refine Tr.val (V.move rfl) rfl ?_
    refine Tr.val (V.move rfl) rfl ?_
    refine Tr.val (V.move rfl) rfl ?_
    refine Tr.val (V.addN (b := 1) rfl rfl (by omega)) rfl ?_
    refine Tr.val (V.idxS (j := i + 1) Try.runUnderlying53 Try.sizeOf3 rfl rfl (by omega) (by omega) hp) rfl ?_
    refine Tr.val (V.load1 Try.isAgg3 rfl (V.cellR (hx.old) (by rw [List.getElem?_map, hb]; rfl))) rfl ?_
    refine Tr.val (V.move rfl) rfl ?_
    refine Tr.val (V.subN (a := 8) rfl rfl (by omega) (by omega)) rfl ?_
    refine Tr.val (V.convN_64 Try.runUnderlying3 Try.runUnderlying57 rfl (by omega) (by omega)) rfl ?_
    refine Tr.val (V.shlN rfl rfl (by omega) (by omega)) rfl ?_
    refine Tr.val (V.remN (b := 256) rfl rfl (by omega)) rfl ?_
    refine Tr.val (V.addN rfl rfl (by omega)) rfl ?_
    refine Tr.val (V.assign rfl) rfl ?_
    refine Tr.lNil ?_
    refine Tr.thenN ?_
    refine Tr.region ?_
    refine Tr.val (V.move rfl) rfl ?_
    refine Tr.val (V.move rfl) rfl ?_
    refine Tr.op (W.build (vs := [NV (a / 2 ^ r + b * 2 ^ (8 - r) % 256)]) elem53 (W.parts1 rfl) rfl (by simp [Value.cells]) (by omega) rfl fun g74 => ?_)
    refine Tr.op (W.append (m := (highP q r xs i).length) (xs := (highP q r xs i).map NV) (vs := [NV (a / 2 ^ r + b * 2 ^ (8 - r) % 256)]) (junk := jh) (L' := fun y => [⟨g74, 3, [NV (a / 2 ^ r + b * 2 ^ (8 - r) % 256)]⟩, ⟨g46, 3, [NV (a % 2 ^ r)]⟩, y, ⟨gl', 3, (lowP q r xs (i + 1)).map NV ++ jl'⟩]) elem53 rfl rfl (RdP.blk (cs := [NV (a / 2 ^ r + b * 2 ^ (8 - r) % 256)]) (List.Mem.head _) 0 1) rfl (by simp [Value.oneCell']) (fun y => .tail (.tail (.head))) (List.length_map _) hkh (by omega) (by omega) rfl fun gh' ch' jh' hch' => ?_)
    rw [hH] at hch' ⊢
    refine Tr.val (V.assign rfl) rfl ?_
    refine Tr.lNil ?_
    refine Tr.inN ?_
    refine Tr.thenN ?_
    refine Tr.region ?_
    refine Tr.val (V.move rfl) rfl ?_
    refine Tr.val (V.add rfl rfl (by omega)) rfl ?_
    refine Tr.val (V.assign rfl) rfl ?_
    refine Tr.lNil ?_
    exact Tr.again (i + 1, (gl', cl', jl'), (gh', ch', jh')) ⟨by simp only; omega, hcl', hch'⟩ (by simp only; omega) (lk_cons rfl (lk_cons (by rw [hLl]; rfl) (lk_cons (by rw [hHl]; rfl) (lk_cons rfl (lk_cons rfl (lk_cons rfl (lk_nil _))))))) (.cons _ (.cons _ (List.Sublist.refl _)))
  · obtain ⟨a, ha⟩ : ∃ a, xs[i]? = some a := ⟨_, List.getElem?_eq_getElem (by omega)⟩
    have haD := hd a (mem_get ha)
    have hp := hx.some (by omega)
    have hadl : a / 2 ^ r ≤ a := Nat.div_le_self _ _
    have hlr : (lowP q r xs i).length ≤ i + 1 := lowP_len q r xs i
    have hhr : (highP q r xs i).length ≤ i := highP_len q r xs i
    have hL : (lowP q r xs i).map NV ++ [NV (a % 2 ^ r)] = (lowP q r xs (i + 1)).map NV := by subst hiq; rw [lowP_at i r xs a ha, List.map_append]; rfl
    have hLl : (lowP q r xs (i + 1)).length = (lowP q r xs i).length + 1 := by subst hiq; rw [lowP_at i r xs a ha, List.length_append]; rfl
    have hH : (highP q r xs i).map NV ++ [NV (a / 2 ^ r)] = (highP q r xs (i + 1)).map NV := by rw [highP_snoc q r xs i (by omega), hiAt_one ha (by omega), List.map_append]; rfl
    have hHl : (highP q r xs (i + 1)).length = (highP q r xs i).length + 1 := by rw [highP_snoc q r xs i (by omega), List.length_append]; rfl
    refine Tr.seq ?_
    refine Tr.seq ?_
    refine Tr.region ?_
    refine Tr.val (V.move rfl) rfl ?_
    refine Tr.val (V.move rfl) rfl ?_
    refine Tr.val (V.len Try.runUnderlying53 rfl) rfl ?_
    refine Tr.val (V.lss (b := true) rfl rfl (decide_eq_true (by omega))) rfl ?_
    refine Tr.lNil ?_
    refine Tr.thenN ?_
    refine Tr.condT rfl ?_
    refine Tr.skip ?_
    refine Tr.thenN ?_
    refine Tr.seq ?_
    refine Tr.block ?_
    refine Tr.seq ?_
    refine Tr.seq ?_
    refine Tr.region ?_
    refine Tr.val (V.move rfl) rfl ?_
    refine Tr.val (V.move rfl) rfl ?_
    refine Tr.val (V.lss (b := false) rfl rfl (decide_eq_false (by omega))) rfl ?_
    refine Tr.lNil ?_
    refine Tr.thenN ?_
    refine Tr.condF rfl ?_
    refine Tr.skip ?_
    refine Tr.thenN ?_
    refine Tr.seq ?_
    refine Tr.seq ?_
    refine Tr.region ?_
    refine Tr.val (V.move rfl) rfl ?_
    refine Tr.val (V.move rfl) rfl ?_
    refine Tr.val (V.eql (b := true) rfl rfl (decide_eq_true (by omega))) rfl ?_
    refine Tr.lNil ?_
    refine Tr.thenN ?_
    refine Tr.condT rfl ?_
    refine Tr.region ?_
    refine Tr.val (V.move rfl) rfl ?_
    refine Tr.val (V.move rfl) rfl ?_
    refine Tr.val (V.move rfl) rfl ?_
    refine Tr.val (V.idxS (j := i) Try.runUnderlying53 Try.sizeOf3 rfl rfl (by omega) (by omega) hp) rfl ?_
    refine Tr.val (V.load1 Try.isAgg3 rfl (V.cellR (hx.old) (by rw [List.getElem?_map, ha]; rfl))) rfl ?_
    refine Tr.val (V.move rfl) rfl ?_
    refine Tr.val (V.convN_64 Try.runUnderlying3 Try.runUnderlying57 rfl (by omega) (by omega)) rfl ?_
    refine Tr.val (V.shl1 rfl rfl (by omega)) rfl ?_
    refine Tr.val (V.remN rfl rfl (Nat.two_pow_pos r)) rfl ?_
    refine Tr.op (W.build (vs := [NV (a % 2 ^ r)]) elem53 (W.parts1 rfl) rfl (by simp [Value.cells]) (by omega) rfl fun g46 => ?_)
    refine Tr.op (W.append (m := (lowP q r xs i).length) (xs := (lowP q r xs i).map NV) (vs := [NV (a % 2 ^ r)]) (junk := jl) (L' := fun y => [⟨g46, 3, [NV (a % 2 ^ r)]⟩, ⟨gh, 3, (highP q r xs i).map NV ++ jh⟩, y]) elem53 rfl rfl (RdP.blk (cs := [NV (a % 2 ^ r)]) (List.Mem.head _) 0 1) rfl (by simp [Value.oneCell']) (fun y => .tail (.tail (.head))) (List.length_map _) hkl (by omega) (by omega) rfl fun gl' cl' jl' hcl' => ?_)
    rw [hL] at hcl' ⊢
    refine Tr.val (V.assign rfl) rfl ?_
    refine Tr.lNil ?_
    refine Tr.thenN ?_
    refine Tr.seq ?_
    refine Tr.region ?_
    refine Tr.val (V.move rfl) rfl ?_
    refine Tr.val (V.move rfl) rfl ?_
    refine Tr.val (V.idxS (j := i) Try.runUnderlying53 Try.sizeOf3 rfl rfl (by omega) (by omega) hp) rfl ?_
    refine Tr.val (V.load1 Try.isAgg3 rfl (V.cellR (hx.old) (by rw [List.getElem?_map, ha]; rfl))) rfl ?_
    refine Tr.val (V.move rfl) rfl ?_
    refine Tr.val (V.convN_64 Try.runUnderlying3 Try.runUnderlying57 rfl (by omega) (by omega)) rfl ?_
    refine Tr.val (V.shrN rfl rfl (by omega)) rfl ?_
    refine Tr.val (V.assign rfl) rfl ?_
    refine Tr.lNil ?_
    refine Tr.thenN ?_
    refine Tr.seq ?_
    refine Tr.seq ?_
    refine Tr.region ?_
    refine Tr.val (V.move rfl) rfl ?_
    refine Tr.val (V.addN (b := 1) rfl rfl (by omega)) rfl ?_
    refine Tr.val (V.move rfl) rfl ?_
    refine Tr.val (V.len Try.runUnderlying53 rfl) rfl ?_
    refine Tr.val (V.lss (b := false) rfl rfl (decide_eq_false (by omega))) rfl ?_
    refine Tr.lNil ?_
    refine Tr.thenN ?_
    refine Tr.condF rfl ?_
    refine Tr.skip ?_
    refine Tr.thenN ?_
    refine Tr.region ?_
    refine Tr.val (V.move rfl) rfl ?_
    refine Tr.val (V.move rfl) rfl ?_
    refine Tr.op (W.build (vs := [NV (a / 2 ^ r)]) elem53 (W.parts1 rfl) rfl (by simp [Value.cells]) (by omega) rfl fun g74 => ?_)
    refine Tr.op (W.append (m := (highP q r xs i).length) (xs := (highP q r xs i).map NV) (vs := [NV (a / 2 ^ r)]) (junk := jh) (L' := fun y => [⟨g74, 3, [NV (a / 2 ^ r)]⟩, ⟨g46, 3, [NV (a % 2 ^ r)]⟩, y, ⟨gl', 3, (lowP q r xs (i + 1)).map NV ++ jl'⟩]) elem53 rfl rfl (RdP.blk (cs := [NV (a / 2 ^ r)]) (List.Mem.head _) 0 1) rfl (by simp [Value.oneCell']) (fun y => .tail (.tail (.head))) (List.length_map _) hkh (by omega) (by omega) rfl fun gh' ch' jh' hch' => ?_)
    rw [hH] at hch' ⊢
    refine Tr.val (V.assign rfl) rfl ?_
    refine Tr.lNil ?_
    refine Tr.inN ?_
    refine Tr.thenN ?_
    refine Tr.region ?_
    refine Tr.val (V.move rfl) rfl ?_
    refine Tr.val (V.add rfl rfl (by omega)) rfl ?_
    refine Tr.val (V.assign rfl) rfl ?_
    refine Tr.lNil ?_
    exact Tr.again (i + 1, (gl', cl', jl'), (gh', ch', jh')) ⟨by simp only; omega, hcl', hch'⟩ (by simp only; omega) (lk_cons rfl (lk_cons (by rw [hLl]; rfl) (lk_cons (by rw [hHl]; rfl) (lk_cons rfl (lk_cons rfl (lk_cons rfl (lk_nil _))))))) (.cons _ (.cons _ (List.Sublist.refl _)))
  · obtain ⟨a, ha⟩ : ∃ a, xs[i]? = some a := ⟨_, List.getElem?_eq_getElem (by omega)⟩
    have haD := hd a (mem_get ha)
    have hp := hx.some (by omega)
    have hadl : a / 2 ^ r ≤ a := Nat.div_le_self _ _
    have hlr : (lowP q r xs i).length ≤ i + 1 := lowP_len q r xs i
    have hhr : (highP q r xs i).length ≤ i := highP_len q r xs i
    have hLe : lowP q r xs (i + 1) = lowP q r xs i := lowP_above q r xs i (by omega)
    obtain ⟨b, hb⟩ : ∃ b, xs[i + 1]? = some b := ⟨_, List.getElem?_eq_getElem (by omega)⟩
    have hbD := hd b (mem_get hb)
    have hb8 : b * 2 ^ (8 - r) ≤ 255 * 256 := Nat.mul_le_mul (by omega) (Nat.le_trans (Nat.pow_le_pow_right (by decide) (show 8 - r ≤ 8 by omega)) (by decide))
    have hH : (highP q r xs i).map NV ++ [NV (a / 2 ^ r + b * 2 ^ (8 - r) % 256)] = (highP q r xs (i + 1)).map NV := by rw [highP_snoc q r xs i (by omega), hiAt_two ha hb, List.map_append]; rfl
    have hHl : (highP q r xs (i + 1)).length = (highP q r xs i).length + 1 := by rw [highP_snoc q r xs i (by omega), List.length_append]; rfl
    refine Tr.seq ?_
    refine Tr.seq ?_
    refine Tr.region ?_
    refine Tr.val (V.move rfl) rfl ?_
    refine Tr.val (V.move rfl) rfl ?_
    refine Tr.val (V.len Try.runUnderlying53 rfl) rfl ?_
    refine Tr.val (V.lss (b := true) rfl rfl (decide_eq_true (by omega))) rfl ?_
    refine Tr.lNil ?_
    refine Tr.thenN ?_
    refine Tr.condT rfl ?_
    refine Tr.skip ?_
    refine Tr.thenN ?_
    refine Tr.seq ?_
    refine Tr.block ?_
    refine Tr.seq ?_
    refine Tr.seq ?_
    refine Tr.region ?_
    refine Tr.val (V.move rfl) rfl ?_
    refine Tr.val (V.move rfl) rfl ?_
    refine Tr.val (V.lss (b := false) rfl rfl (decide_eq_false (by omega))) rfl ?_
    refine Tr.lNil ?_
    refine Tr.thenN ?_
    refine Tr.condF rfl ?_
    refine Tr.skip ?_
    refine Tr.thenN ?_
    refine Tr.seq ?_
    refine Tr.seq ?_
    refine Tr.region ?_
    refine Tr.val (V.move rfl) rfl ?_
    refine Tr.val (V.move rfl) rfl ?_
    refine Tr.val (V.eql (b := false) rfl rfl (decide_eq_false (by omega))) rfl ?_
    refine Tr.lNil ?_
    refine Tr.thenN ?_
    refine Tr.condF rfl ?_
    refine Tr.skip ?_
    refine Tr.thenN ?_
    refine Tr.seq ?_
    refine Tr.region ?_
    refine Tr.val (V.move rfl) rfl ?_
    refine Tr.val (V.move rfl) rfl ?_
    refine Tr.val (V.idxS (j := i) Try.runUnderlying53 Try.sizeOf3 rfl rfl (by omega) (by omega) hp) rfl ?_
    refine Tr.val (V.load1 Try.isAgg3 rfl (V.cellR (hx.old) (by rw [List.getElem?_map, ha]; rfl))) rfl ?_
    refine Tr.val (V.move rfl) rfl ?_
    refine Tr.val (V.convN_64 Try.runUnderlying3 Try.runUnderlying57 rfl (by omega) (by omega)) rfl ?_
    refine Tr.val (V.shrN rfl rfl (by omega)) rfl ?_
    refine Tr.val (V.assign rfl) rfl ?_
    refine Tr.lNil ?_
    refine Tr.thenN ?_
    refine Tr.seq ?_
    refine Tr.seq ?_
    refine Tr.region ?_
    refine Tr.val (V.move rfl) rfl ?_
    refine Tr.val (V.addN (b := 1) rfl rfl (by omega)) rfl ?_
    refine Tr.val (V.move rfl) rfl ?_
    refine Tr.val (V.len Try.runUnderlying53 rfl) rfl ?_
    refine Tr.val (V.lss (b := true) rfl rfl (decide_eq_true (by omega))) rfl ?_
    refine Tr.lNil ?_
    refine Tr.thenN ?_
    refine Tr.condT rfl ?_
    refine Tr.region ?_
    refine Tr.val (V.move rfl) rfl ?_
    refine Tr.val (V.move rfl) rfl ?_
    refine Tr.val (V.move rfl) rfl ?_
    refine Tr.val (V.addN (b := 1) rfl rfl (by omega)) rfl ?_
    refine Tr.val (V.idxS (j := i + 1) Try.runUnderlying53 Try.sizeOf3 rfl rfl (by omega) (by omega) hp) rfl ?_
    refine Tr.val (V.load1 Try.isAgg3 rfl (V.cellR (hx.old) (by rw [List.getElem?_map, hb]; rfl))) rfl ?_
    refine Tr.val (V.move rfl) rfl ?_
    refine Tr.val (V.subN (a := 8) rfl rfl (by omega) (by omega)) rfl ?_
    refine Tr.val (V.convN_64 Try.runUnderlying3 Try.runUnderlying57 rfl (by omega) (by omega)) rfl ?_
    refine Tr.val (V.shlN rfl rfl (by omega) (by omega)) rfl ?_
    refine Tr.val (V.remN (b := 256) rfl rfl (by omega)) rfl ?_
    refine Tr.val (V.addN rfl rfl (by omega)) rfl ?_
    refine Tr.val (V.assign rfl) rfl ?_
    refine Tr.lNil ?_
    refine Tr.thenN ?_
    refine Tr.region ?_
    refine Tr.val (V.move rfl) rfl ?_
    refine Tr.val (V.move rfl) rfl ?_
    refine Tr.op (W.build (vs := [NV (a / 2 ^ r + b * 2 ^ (8 - r) % 256)]) elem53 (W.parts1 rfl) rfl (by simp [Value.cells]) (by omega) rfl fun g74 => ?_)
    refine Tr.op (W.append (m := (highP q r xs i).length) (xs := (highP q r xs i).map NV) (vs := [NV (a / 2 ^ r + b * 2 ^ (8 - r) % 256)]) (junk := jh) (L' := fun y => [⟨g74, 3, [NV (a / 2 ^ r + b * 2 ^ (8 - r) % 256)]⟩, y, ⟨gl, 3, (lowP q r xs i).map NV ++ jl⟩]) elem53 rfl rfl (RdP.blk (cs := [NV (a / 2 ^ r + b * 2 ^ (8 - r) % 256)]) (List.Mem.head _) 0 1) rfl (by simp [Value.oneCell']) (fun y => .tail (.head)) (List.length_map _) hkh (by omega) (by omega) rfl fun gh' ch' jh' hch' => ?_)
    rw [hH] at hch' ⊢
    refine Tr.val (V.assign rfl) rfl ?_
    refine Tr.lNil ?_
    refine Tr.inN ?_
    refine Tr.thenN ?_
    refine Tr.region ?_
    refine Tr.val (V.move rfl) rfl ?_
    refine Tr.val (V.add rfl rfl (by omega)) rfl ?_
    refine Tr.val (V.assign rfl) rfl ?_
    refine Tr.lNil ?_
    exact Tr.again (i + 1, (gl, cl, jl), (gh', ch', jh')) ⟨by simp only; omega, by simp only; rw [hLe]; exact hkl, hch'⟩ (by simp only; omega) (lk_cons rfl (lk_cons (by rw [hLe]; rfl) (lk_cons (by rw [hHl]; rfl) (lk_cons rfl (lk_cons rfl (lk_cons rfl (lk_nil _))))))) (by simp only; rw [hLe]; exact List.sublist_cons_self _ _)
  · obtain ⟨a, ha⟩ : ∃ a, xs[i]? = some a := ⟨_, List.getElem?_eq_getElem (by omega)⟩
    have haD := hd a (mem_get ha)
    have hp := hx.some (by omega)
    have hadl : a / 2 ^ r ≤ a := Nat.div_le_self _ _
    have hlr : (lowP q r xs i).length ≤ i + 1 := lowP_len q r xs i
    have hhr : (highP q r xs i).length ≤ i := highP_len q r xs i
    have hLe : lowP q r xs (i + 1) = lowP q r xs i := lowP_above q r xs i (by omega)
    have hH : (highP q r xs i).map NV ++ [NV (a / 2 ^ r)] = (highP q r xs (i + 1)).map NV := by rw [highP_snoc q r xs i (by omega), hiAt_one ha (by omega), List.map_append]; rfl
    have hHl : (highP q r xs (i + 1)).length = (highP q r xs i).length + 1 := by rw [highP_snoc q r xs i (by omega), List.length_append]; rfl
    refine Tr.seq ?_
    refine Tr.seq ?_
    refine Tr.region ?_
    refine Tr.val (V.move rfl) rfl ?_
    refine Tr.val (V.move rfl) rfl ?_
    refine Tr.val (V.len Try.runUnderlying53 rfl) rfl ?_
    refine Tr.val (V.lss (b := true) rfl rfl (decide_eq_true (by omega))) rfl ?_
    refine Tr.lNil ?_
    refine Tr.thenN ?_
    refine Tr.condT rfl ?_
    refine Tr.skip ?_
    refine Tr.thenN ?_
    refine Tr.seq ?_
    refine Tr.block ?_
    refine Tr.seq ?_
    refine Tr.seq ?_
    refine Tr.region ?_
    refine Tr.val (V.move rfl) rfl ?_
    refine Tr.val (V.move rfl) rfl ?_
    refine Tr.val (V.lss (b := false) rfl rfl (decide_eq_false (by omega))) rfl ?_
    refine Tr.lNil ?_
    refine Tr.thenN ?_
    refine Tr.condF rfl ?_
    refine Tr.skip ?_
    refine Tr.thenN ?_
    refine Tr.seq ?_
    refine Tr.seq ?_
    refine Tr.region ?_
    refine Tr.val (V.move rfl) rfl ?_
    refine Tr.val (V.move rfl) rfl ?_
    refine Tr.val (V.eql (b := false) rfl rfl (decide_eq_false (by omega))) rfl ?_
    refine Tr.lNil ?_
    refine Tr.thenN ?_
    refine Tr.condF rfl ?_
    refine Tr.skip ?_
    refine Tr.thenN ?_
    refine Tr.seq ?_
    refine Tr.region ?_
    refine Tr.val (V.move rfl) rfl ?_
    refine Tr.val (V.move rfl) rfl ?_
    refine Tr.val (V.idxS (j := i) Try.runUnderlying53 Try.sizeOf3 rfl rfl (by omega) (by omega) hp) rfl ?_
    refine Tr.val (V.load1 Try.isAgg3 rfl (V.cellR (hx.old) (by rw [List.getElem?_map, ha]; rfl))) rfl ?_
    refine Tr.val (V.move rfl) rfl ?_
    refine Tr.val (V.convN_64 Try.runUnderlying3 Try.runUnderlying57 rfl (by omega) (by omega)) rfl ?_
    refine Tr.val (V.shrN rfl rfl (by omega)) rfl ?_
    refine Tr.val (V.assign rfl) rfl ?_
    refine Tr.lNil ?_
    refine Tr.thenN ?_
    refine Tr.seq ?_
    refine Tr.seq ?_
    refine Tr.region ?_
    refine Tr.val (V.move rfl) rfl ?_
    refine Tr.val (V.addN (b := 1) rfl rfl (by omega)) rfl ?_
    refine Tr.val (V.move rfl) rfl ?_
    refine Tr.val (V.len Try.runUnderlying53 rfl) rfl ?_
    refine Tr.val (V.lss (b := false) rfl rfl (decide_eq_false (by omega))) rfl ?_
    refine Tr.lNil ?_
    refine Tr.thenN ?_
    refine Tr.condF rfl ?_
    refine Tr.skip ?_
    refine Tr.thenN ?_
    refine Tr.region ?_
    refine Tr.val (V.move rfl) rfl ?_
    refine Tr.val (V.move rfl) rfl ?_
    refine Tr.op (W.build (vs := [NV (a / 2 ^ r)]) elem53 (W.parts1 rfl) rfl (by simp [Value.cells]) (by omega) rfl fun g74 => ?_)
    refine Tr.op (W.append (m := (highP q r xs i).length) (xs := (highP q r xs i).map NV) (vs := [NV (a / 2 ^ r)]) (junk := jh) (L' := fun y => [⟨g74, 3, [NV (a / 2 ^ r)]⟩, y, ⟨gl, 3, (lowP q r xs i).map NV ++ jl⟩]) elem53 rfl rfl (RdP.blk (cs := [NV (a / 2 ^ r)]) (List.Mem.head _) 0 1) rfl (by simp [Value.oneCell']) (fun y => .tail (.head)) (List.length_map _) hkh (by omega) (by omega) rfl fun gh' ch' jh' hch' => ?_)
    rw [hH] at hch' ⊢
    refine Tr.val (V.assign rfl) rfl ?_
    refine Tr.lNil ?_
    refine Tr.inN ?_
    refine Tr.thenN ?_
    refine Tr.region ?_
    refine Tr.val (V.move rfl) rfl ?_
    refine Tr.val (V.add rfl rfl (by omega)) rfl ?_
    refine Tr.val (V.assign rfl) rfl ?_
    refine Tr.lNil ?_
    exact Tr.again (i + 1, (gl, cl, jl), (gh', ch', jh')) ⟨by simp only; omega, by simp only; rw [hLe]; exact hkl, hch'⟩ (by simp only; omega) (lk_cons rfl (lk_cons (by rw [hLe]; rfl) (lk_cons (by rw [hHl]; rfl) (lk_cons rfl (lk_cons rfl (lk_cons rfl (lk_nil _))))))) (by simp only; rw [hLe]; exact List.sublist_cons_self _ _)
  · have hlo := trimL_dig _ (lowP_digs q r xs i hd hr)
    have hhi := trimL_dig _ (highP_digs q r xs i hd hr)
    rw [show num (lowP q r xs i) = num xs % 2 ^ n by rw [him1, ← hxl, lowP_num q r xs hd hr, hn]] at hlo
    rw [show num (highP q r xs i) = num xs / 2 ^ n by rw [him1, ← hxl, highP_num q r xs hd hr, hn]] at hhi
    refine Tr.seq ?_
    refine Tr.seq ?_
    refine Tr.region ?_
    refine Tr.val (V.move rfl) rfl ?_
    refine Tr.val (V.move rfl) rfl ?_
    refine Tr.val (V.len Try.runUnderlying53 rfl) rfl ?_
    refine Tr.val (V.lss (b := false) rfl rfl (decide_eq_false (by omega))) rfl ?_
    refine Tr.lNil ?_
    refine Tr.thenN ?_
    refine Tr.condF rfl ?_
    refine Tr.exit ?_
    refine Tr.thenX ?_
    refine Tr.thenX ?_
    refine Tr.inHit ?_
    refine Tr.thenN ?_
    refine Tr.seq ?_
    refine Tr.region ?_
    refine Tr.val (V.move rfl) rfl ?_
    refine Tr.op (W.call1 (args1 rfl) Try.call53 rfl (fun w1 hw => trim_any (some ⟨gl, 0, none⟩) _ cl (lowP q r xs i) w1 (Nums.own hw (.tail _ (List.Mem.head _)) rfl hkl) (by have := lowP_len q r xs i; omega)) ?_)
    refine Tr.val (V.move rfl) rfl ?_
    refine Tr.op (W.call1 (args1 rfl) Try.call53 rfl (fun w1 hw => trim_any (some ⟨gh, 0, none⟩) _ ch (highP q r xs i) w1 (Nums.own hw (List.Mem.head _) rfl hkh) (by have := highP_len q r xs i; omega)) ?_)
    refine Tr.val (V.assign rfl) rfl ?_
    refine Tr.val (V.assign rfl) rfl ?_
    refine Tr.lNil ?_
    refine Tr.thenN ?_
    refine Tr.ret ?_
    refine Tr.out2 rfl (Res.tmp rfl) (Res.tmp rfl) fun w hw => ?_
    obtain ⟨zl, hzl⟩ := trimL_prefix (lowP q r xs i)
    obtain ⟨zh, hzh⟩ := trimL_prefix (highP q r xs i)
    rw [hlo] at hzl
    rw [hhi] at hzh
    have hml : (lowP q r xs i).map NV ++ jl = (dig (num xs % 2 ^ n)).map NV ++ (zl.map NV ++ jl) := by
      rw [← List.append_assoc, ← List.map_append, ← hzl]
    have hmh : (highP q r xs i).map NV ++ jh = (dig (num xs / 2 ^ n)).map NV ++ (zh.map NV ++ jh) := by
      rw [← List.append_assoc, ← List.map_append, ← hzh]
    exact ⟨⟨⟨gl, cl, zl.map NV ++ jl⟩, ⟨gh, ch, zh.map NV ++ jh⟩⟩, by rw [hlo, hhi], by rw [← hml, ← hmh]; exact hw, by rw [← hml]; exact hkl, by rw [← hmh]; exact hkh⟩

end Go.Proofs.Ytgkndcincgpmdaa
