/-
  Contracts of slices.Clone, slices.Reverse and words.Put. (Printed by words2.py over the walk printer of this session.)
-/
import Derived.Test.YtnhfmmohdiccgaaWordsA
namespace Go.Proofs.Ytnhfmmohdiccgaa
open Go.Sym Plain

theorem clone_nil (w : World) : Calls Try.prog 39 [.slice none 0 0].toArray w fun r w' => r = .returned (.slice none 0 0) ∧ Hp w [] [] w' := by
  refine Tr.enter Try.func39 rfl Try.ntmps39 rfl (Hp.refl w) ?_
  refine Tr.seq ?_
  refine Tr.region ?_
  refine Tr.val (V.assign rfl) rfl ?_
  refine Tr.lNil ?_
  refine Tr.thenN ?_
  refine Tr.seq ?_
  refine Tr.seq ?_
  refine Tr.region ?_
  refine Tr.val (V.move rfl) rfl ?_
  refine Tr.val (V.eqlNil Try.runUnderlying22 rfl rfl) rfl ?_
  refine Tr.lNil ?_
  refine Tr.thenN ?_
  refine Tr.condT rfl ?_
  refine Tr.seq ?_
  refine Tr.region ?_
  refine Tr.val (V.assign rfl) rfl ?_
  refine Tr.lNil ?_
  refine Tr.thenN ?_
  refine Tr.ret ?_
  refine Tr.thenR ?_
  refine Tr.out1 rfl (Res.tmp rfl) fun w hw => ?_
  exact ⟨rfl, hw⟩

theorem clone_some (ad : Addr) (m c : Nat) (xs : List (BitVec 8)) (w : World) (hr : RdB w (some ad) (xs.map U8)) (hl : xs.length = m) (hm : m ≤ 140737488355328) :
    Calls Try.prog 39 [.slice (some ad) m c].toArray w fun r w' => ∃ x : Nat × Nat × List Value, r = .returned (.slice (some ⟨x.1, 0, none⟩) m x.2.1) ∧ Hp w [] [⟨x.1, 5, xs.map U8 ++ x.2.2⟩] w' ∧ (xs.map U8 ++ x.2.2).length = x.2.1 := by
  refine Tr.enter Try.func39 rfl Try.ntmps39 rfl (Hp.refl w) ?_
  refine Tr.seq ?_
  refine Tr.region ?_
  refine Tr.val (V.assign rfl) rfl ?_
  refine Tr.lNil ?_
  refine Tr.thenN ?_
  refine Tr.seq ?_
  refine Tr.seq ?_
  refine Tr.region ?_
  refine Tr.val (V.move rfl) rfl ?_
  refine Tr.val (V.eqlNil Try.runUnderlying22 rfl rfl) rfl ?_
  refine Tr.lNil ?_
  refine Tr.thenN ?_
  refine Tr.condF rfl ?_
  refine Tr.skip ?_
  refine Tr.thenN ?_
  refine Tr.seq ?_
  refine Tr.region ?_
  refine Tr.op (W.build elem22 W.parts0 rfl (by simp) (by omega) rfl fun g0 => ?_)
  refine Tr.val (V.move rfl) rfl ?_
  refine Tr.op (W.append (xs := []) (junk := []) elem22 rfl rfl (RdP.old hr (fun _ _ => by simp)) (by simpa using hl) (by simp [Value.oneCell']) (fun y => .head) rfl rfl (by omega) (by omega) rfl fun g c1 junk hc1 => ?_)
  refine Tr.val (V.assign rfl) rfl ?_
  refine Tr.lNil ?_
  refine Tr.thenN ?_
  refine Tr.ret ?_
  refine Tr.out1 rfl (Res.tmp rfl) fun w hw => ?_
  refine ⟨⟨g, c1, junk⟩, ?_, hw, hc1⟩
  simp only [Nat.zero_add]

theorem reverse_nil (p : Option Addr) (c : Nat) (w : World) : Calls Try.prog 40 [.slice p 0 c].toArray w fun r w' => r = .returned (.tuple #[]) ∧ Hp w [] [] w' := by
  refine Tr.enter Try.func40 rfl Try.ntmps40 rfl (Hp.refl w) ?_
  refine Tr.seq ?_
  refine Tr.region ?_
  refine Tr.val (V.move rfl) rfl ?_
  refine Tr.val (V.len Try.runUnderlying22 rfl) rfl ?_
  refine Tr.val (V.sub rfl rfl (by omega)) rfl ?_
  refine Tr.val (V.assign rfl) rfl ?_
  refine Tr.val (V.assign rfl) rfl ?_
  refine Tr.lNil ?_
  refine Tr.thenN ?_
  refine Tr.block ?_
  refine Tr.loop (ι := Unit) (fun _ => True) (fun _ => [(0, .slice p 0 c), (2, .int .i64 0), (3, .int .i64 (-1))]) (fun _ => []) (fun _ => 0) () trivial (lk_cons rfl (lk_cons rfl (lk_cons rfl (lk_nil _)))) (List.Sublist.refl _) fun _ hI => ?_
  refine Tr.seq ?_
  refine Tr.seq ?_
  refine Tr.region ?_
  refine Tr.val (V.move rfl) rfl ?_
  refine Tr.val (V.move rfl) rfl ?_
  refine Tr.val (V.lss (b := false) rfl rfl (decide_eq_false (by omega))) rfl ?_
  refine Tr.lNil ?_
  refine Tr.thenN ?_
  refine Tr.condF rfl ?_
  refine Tr.exit ?_
  refine Tr.thenX ?_
  refine Tr.thenX ?_
  refine Tr.inHit ?_
  refine Tr.out0 rfl fun w hw => ?_
  exact ⟨rfl, hw⟩

theorem reverse_own (g o m c : Nat) (ty : TypeId) (pre l post : List Value) (w : World) (hb : w.heap[g]? = some (.cells (pre ++ l ++ post).toArray ty (0, 0))) (hp : pre.length = o) (hl : l.length = m) (hm : m ≤ 140737488355328) (h1 : ∀ v ∈ l, v.cells = #[v] ∧ v.oneCell' = true) :
    Calls Try.prog 40 [.slice (some ⟨g, o, none⟩) m c].toArray w fun r w' => r = .returned (.tuple #[]) ∧ Hp w [g] [⟨g, ty, pre ++ l.reverse ++ post⟩] w' := by
  refine Tr.enter Try.func40 rfl Try.ntmps40 rfl (Hp.own1 hb) ?_
  refine Tr.seq ?_
  refine Tr.region ?_
  refine Tr.val (V.move rfl) rfl ?_
  refine Tr.val (V.len Try.runUnderlying22 rfl) rfl ?_
  refine Tr.val (V.sub rfl rfl (by omega)) rfl ?_
  refine Tr.val (V.assign rfl) rfl ?_
  refine Tr.val (V.assign rfl) rfl ?_
  refine Tr.lNil ?_
  refine Tr.thenN ?_
  refine Tr.block ?_
  refine Tr.loop (ι := Nat × List Value) (fun x => RevAt l x.1 x.2 ∧ x.1 ≤ m) (fun x => [(0, .slice (some ⟨g, o, none⟩) m c), (2, .int .i64 (x.1 : Int)), (3, .int .i64 ((m : Int) - 1 - (x.1 : Int)))]) (fun x => [⟨g, ty, pre ++ x.2 ++ post⟩]) (fun x => m - x.1) (0, l) ⟨RevAt.zero l, Nat.zero_le _⟩ (lk_cons rfl (lk_cons rfl (lk_cons (by simp [lk]) (lk_nil _)))) (List.Sublist.refl _) fun x hI => ?_
  obtain ⟨k, l'⟩ := x
  obtain ⟨hI, hkm⟩ := hI
  simp only at hI hkm
  refine Tr.seq ?_
  refine Tr.seq ?_
  refine Tr.region ?_
  refine Tr.val (V.move rfl) rfl ?_
  refine Tr.val (V.move rfl) rfl ?_
  refine Tr.val (V.lss rfl rfl rfl) rfl ?_
  refine Tr.lNil ?_
  refine Tr.thenN ?_
  refine Tr.cond rfl (fun hT0 => ?_) (fun hF0 => ?_)
  · simp only [decide_eq_true_eq] at hT0
    have hk : k + k + 1 < l.length := by omega
    have hll := hI.1
    obtain ⟨a, ha⟩ : ∃ a, l'[l.length - 1 - k]? = some a := ⟨_, List.getElem?_eq_getElem (by omega)⟩
    obtain ⟨b, hbb⟩ : ∃ b, l'[k]? = some b := ⟨_, List.getElem?_eq_getElem (by omega)⟩
    have hst := hI.step hk ha hbb
    have hmem : ∀ v ∈ l', v.cells = #[v] ∧ v.oneCell' = true := by
      intro v hv
      obtain ⟨i, hi, rfl⟩ := List.mem_iff_getElem.1 hv
      have h2 := hI.2 i (by omega)
      rw [List.getElem?_eq_getElem hi] at h2
      split at h2
      · exact h1 _ (List.mem_of_getElem? h2.symm)
      · exact h1 _ (List.mem_of_getElem? h2.symm)
    have hva := hmem a (List.mem_of_getElem? ha)
    have hvb := hmem b (List.mem_of_getElem? hbb)
    have hset : ((pre ++ l' ++ post).set (o + k) a).set (o + (m - 1 - k)) b = pre ++ (l'.set k a).set (l.length - 1 - k) b ++ post := by
      rw [set_mid pre l' post k _ a (by omega) (by omega), set_mid pre (l'.set k a) post (l.length - 1 - k) _ b (by omega) (by simp; omega)]
    have hga : (pre ++ l' ++ post)[o + (m - 1 - k)]? = some a := by rw [get_mid pre l' post (l.length - 1 - k) _ (by omega) (by omega)]; exact ha
    have hgb : (pre ++ l' ++ post)[o + k]? = some b := by rw [get_mid pre l' post k _ (by omega) (by omega)]; exact hbb
    refine Tr.skip ?_
    refine Tr.thenN ?_
    refine Tr.seq ?_
    refine Tr.block ?_
    refine Tr.regionD [0, 0, 0, 0, 0, 0, 48, 112, 0, 0, 768, 1792, 4083, 8179, 16383, 32767] [13, 15] (.pure 0 (.pure 1 (.pure 2 (.pure 3 (.pure 4 (.pure 5 (.pure 6 (.soft 7 (.pure 8 (.pure 9 (.pure 10 (.soft 11 (.pure 12 (.hard 13 (.pure 14 (.hard 15 .done)))))))))))))))) mixed (by kernel_rfl) ?_
    refine TrP.pure rfl (fun _ => V.move rfl) rfl ?_
    refine TrP.pure rfl (fun _ => V.move rfl) rfl ?_
    refine TrP.pure rfl (fun _ => V.move rfl) rfl ?_
    refine TrP.pure rfl (fun _ => V.move rfl) rfl ?_
    refine TrP.pure rfl (fun _ => V.move rfl) rfl ?_
    refine TrP.pure rfl (fun _ => V.move rfl) rfl ?_
    refine TrP.pure rfl (fun _ => V.idxO (j := m - 1 - k) Try.runUnderlying22 Try.sizeOf5 rfl rfl (by omega) (by omega) rfl) rfl ?_
    refine TrP.soft rfl (V.load1 Try.isAgg5 rfl (V.cellB (List.Mem.head _) hga)) rfl ?_
    refine TrP.pure rfl (fun _ => V.move rfl) rfl ?_
    refine TrP.pure rfl (fun _ => V.move rfl) rfl ?_
    refine TrP.pure rfl (fun _ => V.idxO (j := k) Try.runUnderlying22 Try.sizeOf5 rfl rfl (by omega) (by omega) rfl) rfl ?_
    refine TrP.soft rfl (V.load1 Try.isAgg5 rfl (V.cellB (List.Mem.head _) hgb)) rfl ?_
    refine TrP.pure rfl (fun _ => V.idxO (j := k) Try.runUnderlying22 Try.sizeOf5 rfl rfl (by omega) (by omega) rfl) rfl ?_
    refine TrP.hard rfl (W.store1 Try.sizeOf5 rfl rfl hva.1 hva.2 Upd.head (by simp; omega) ?_)
    refine Tr.pTail rfl ?_
    refine TrP.pure rfl (fun _ => V.idxO (j := m - 1 - k) Try.runUnderlying22 Try.sizeOf5 rfl rfl (by omega) (by omega) rfl) rfl ?_
    refine TrP.hard rfl (W.store1 Try.sizeOf5 rfl rfl hvb.1 hvb.2 Upd.head (by simp; omega) ?_)
    refine Tr.pTail rfl ?_
    refine TrP.done ?_
    refine Tr.inN ?_
    refine Tr.thenN ?_
    refine Tr.region ?_
    refine Tr.val (V.move rfl) rfl ?_
    refine Tr.val (V.add rfl rfl (by omega)) rfl ?_
    refine Tr.val (V.move rfl) rfl ?_
    refine Tr.val (V.sub rfl rfl (by omega)) rfl ?_
    refine Tr.val (V.assign rfl) rfl ?_
    refine Tr.val (V.assign rfl) rfl ?_
    refine Tr.lNil ?_
    exact Tr.again (k + 1, (l'.set k a).set (l.length - 1 - k) b) ⟨hst, by omega⟩ (by simp only; omega) (lk_cons rfl (lk_cons (by simp [lk]) (lk_cons (by simp [lk]; omega) (lk_nil _)))) (by rw [← hset]; exact List.Sublist.refl _)
  · simp only [decide_eq_false_iff_not] at hF0
    refine Tr.exit ?_
    refine Tr.thenX ?_
    refine Tr.thenX ?_
    refine Tr.inHit ?_
    refine Tr.out0 rfl fun w hw => ?_
    have hd := hI.done (by omega)
    rw [hd] at hw
    exact ⟨rfl, hw⟩

theorem put_some (ad : Addr) (m c : Nat) (xs : List (BitVec 8)) (i : Int) (nn : BitVec 64) (big : Bool) (w : World) (hr : RdB w (some ad) (xs.map U8)) (hl : xs.length = m) (hm : m ≤ 140737488355000) (h1 : 1 ≤ effI i) :
    Calls Try.prog 19 [.slice (some ad) m c, .int .i64 i, U64 nn, .bool big].toArray w fun r w' => ∃ x : Nat × Nat × List Value, r = .returned (.slice (some ⟨x.1, 0, none⟩) (m + effI i) x.2.1) ∧ Hp w [] [⟨x.1, 5, (xs ++ putW big nn (effI i)).map U8 ++ x.2.2⟩] w' ∧ ((xs ++ putW big nn (effI i)).map U8 ++ x.2.2).length = x.2.1 := by
  obtain ⟨sz, hsz⟩ : ∃ sz, sz = effI i := ⟨_, rfl⟩
  have hs8 : sz ≤ 8 := by rw [hsz]; exact effI_le i
  have hse := effI_eq i
  rw [← hsz] at hse h1 ⊢
  have hzl : (putL nn sz).length = sz := putL_len nn sz
  refine Tr.enter Try.func19 rfl Try.ntmps19 rfl (Hp.refl w) ?_
  refine Tr.seq ?_
  refine Tr.region ?_
  refine Tr.val (V.assign rfl) rfl ?_
  refine Tr.lNil ?_
  refine Tr.thenN ?_
  refine Tr.seq ?_
  refine Tr.region ?_
  refine Tr.val (V.move rfl) rfl ?_
  refine Tr.val (V.max rfl rfl rfl) rfl ?_
  refine Tr.val (V.min rfl rfl hse) rfl ?_
  refine Tr.val (V.assign rfl) rfl ?_
  refine Tr.lNil ?_
  refine Tr.thenN ?_
  refine Tr.seq ?_
  refine Tr.region ?_
  refine Tr.val (V.move rfl) rfl ?_
  refine Tr.op (W.call (val := fun x : Nat × Nat × List Value => .slice (some ⟨x.1, 0, none⟩) m x.2.1) (N := fun x => [⟨x.1, 5, xs.map U8 ++ x.2.2⟩]) (Px := fun x => (xs.map U8 ++ x.2.2).length = x.2.1)  (args1 rfl) Try.call39 rfl (fun w hw => clone_some ad m c xs w ((RdP.old hr (fun _ _ => by simp)).now hw) hl (by omega)) ?_)
  rintro ⟨g0, c0, junk0⟩ hc0
  refine Tr.val (V.move rfl) rfl ?_
  refine Tr.op (W.appendZ elem22 Try.underlying3 rfl rfl rfl rfl (fun y => .head) (by rw [List.length_map]; exact hl) hc0 (by omega) (by omega) (by omega) rfl fun g c1 junk hc1 => ?_)
  have hcap : (m + sz) ≤ c1 := by simp at hc1; omega
  refine Tr.val (V.assign rfl) rfl ?_
  refine Tr.lNil ?_
  refine Tr.thenN ?_
  refine Tr.seq ?_
  refine Tr.region ?_
  refine Tr.val (V.move rfl) rfl ?_
  refine Tr.val (V.move rfl) rfl ?_
  refine Tr.val (V.len Try.runUnderlying22 rfl) rfl ?_
  refine Tr.val (V.sliceO (m' := sz) (c' := c1 - m) (o' := m) Try.runUnderlying22 Try.sizeOf5 rfl rfl rfl rfl rfl (by omega) hcap (by omega) (by omega) (by omega) rfl) rfl ?_
  refine Tr.val (V.assign rfl) rfl ?_
  refine Tr.lNil ?_
  refine Tr.thenN ?_
  refine Tr.seq ?_
  refine Tr.seq ?_
  refine Tr.region ?_
  refine Tr.val (V.move rfl) rfl ?_
  refine Tr.val (V.len Try.runUnderlying22 rfl) rfl ?_
  refine Tr.val (V.move rfl) rfl ?_
  refine Tr.lNil ?_
  refine Tr.thenN ?_
  refine Tr.block ?_
  refine Tr.loop (ι := Nat) (fun k => k ≤ sz) (fun k => [(2, U64 nn), (3, .bool big), (9, .slice (some ⟨g, 0, none⟩) (m + sz) c1), (10, .slice (some ⟨g, m, none⟩) sz (c1 - m)), (24, .int .i64 (sz : Int)), (25, .int .i64 (k : Int))]) (fun k => [⟨g, 5, xs.map U8 ++ (fillL (putL nn sz) k).map U8 ++ junk⟩]) (fun k => sz - k) 0 (Nat.zero_le _) (lk_cons rfl (lk_cons rfl (lk_cons rfl (lk_cons rfl (lk_cons rfl (lk_cons rfl (lk_nil _))))))) (by rw [fillL_zero, hzl, List.map_replicate]; exact List.Sublist.refl _) fun k hI => ?_
  refine Tr.seq ?_
  refine Tr.region ?_
  refine Tr.val (V.lss rfl rfl rfl) rfl ?_
  refine Tr.lNil ?_
  refine Tr.thenN ?_
  refine Tr.seq ?_
  refine Tr.cond rfl (fun hT0 => ?_) (fun hF0 => ?_)
  · simp only [decide_eq_true_eq] at hT0
    have hlt : k < sz := by omega
    have hset : (xs.map U8 ++ (fillL (putL nn sz) k).map U8 ++ junk).set (m + k) (U8 ((nn >>> (8 * k)).setWidth 8)) = xs.map U8 ++ (fillL (putL nn sz) (k + 1)).map U8 ++ junk := by
      rw [set_mid _ _ _ k _ _ (by simp; try omega) (by rw [List.length_map, fillL_len (by omega)]; omega), ← fillL_set (putL_get nn hlt), List.map_set]
    refine Tr.skip ?_
    refine Tr.thenN ?_
    refine Tr.seq ?_
    refine Tr.block ?_
    refine Tr.seq ?_
    refine Tr.region ?_
    refine Tr.val (V.move rfl) rfl ?_
    refine Tr.val (V.assign rfl) rfl ?_
    refine Tr.lNil ?_
    refine Tr.thenN ?_
    refine Tr.region ?_
    refine Tr.val (V.move rfl) rfl ?_
    refine Tr.val (V.move rfl) rfl ?_
    refine Tr.val (V.move rfl) rfl ?_
    refine Tr.val (V.move rfl) rfl ?_
    refine Tr.val (V.mulN (a := 8) rfl rfl (by omega)) rfl ?_
    refine Tr.val (V.shr64 rfl rfl) rfl ?_
    refine Tr.val (V.conv64_8 Try.runUnderlying23 Try.runUnderlying5 rfl) rfl ?_
    refine Tr.val (V.idxO (j := k) Try.runUnderlying22 Try.sizeOf5 rfl rfl (by omega) (by omega) rfl) rfl ?_
    refine Tr.op (W.store1 Try.sizeOf5 rfl rfl rfl rfl (by repeat (first | exact Upd.head | apply Upd.tail)) (by simp [fillL_len (show k ≤ (putL nn sz).length by omega)]; omega) ?_)
    refine Tr.lNil ?_
    refine Tr.inN ?_
    refine Tr.thenN ?_
    refine Tr.region ?_
    refine Tr.val (V.add rfl rfl (by omega)) rfl ?_
    refine Tr.val (V.move rfl) rfl ?_
    refine Tr.lNil ?_
    exact Tr.again (k + 1) (by omega) (by omega) (lk_cons rfl (lk_cons rfl (lk_cons rfl (lk_cons rfl (lk_cons rfl (lk_cons rfl (lk_nil _))))))) (by rw [← hset]; exact List.Sublist.refl _)
  · simp only [decide_eq_false_iff_not] at hF0
    refine Tr.exit ?_
    refine Tr.thenX ?_
    refine Tr.thenX ?_
    refine Tr.inHit ?_
    refine Tr.thenN ?_
    refine Tr.seq ?_
    refine Tr.seq ?_
    refine Tr.region ?_
    refine Tr.val (V.move rfl) rfl ?_
    refine Tr.lNil ?_
    refine Tr.thenN ?_
    refine Tr.cond rfl (fun hT1 => ?_) (fun hF1 => ?_)
    · obtain rfl : big = true := hT1
      obtain rfl : k = sz := by omega
      refine Tr.region ?_
      refine Tr.val (V.move rfl) rfl ?_
      refine Tr.op (W.callM (v := .tuple #[]) (x := ⟨g, 5, xs.map U8 ++ (fillL (putL nn k) k).map U8 ++ junk⟩) (y := ⟨g, 5, xs.map U8 ++ ((fillL (putL nn k) k).map U8).reverse ++ junk⟩)  (args1 rfl) Try.call40 rfl Upd.head rfl (fun w hw hb => reverse_own g m k (c1 - m) _ _ _ _ w hb (by simp; try omega) (by rw [List.length_map, fillL_len (by omega), hzl]) (by omega) (by intro v hv; obtain ⟨b, _, rfl⟩ := List.mem_map.1 hv; exact ⟨rfl, rfl⟩)) ?_)
      refine Tr.lNil ?_
      refine Tr.thenN ?_
      refine Tr.seq ?_
      refine Tr.region ?_
      refine Tr.val (V.move rfl) rfl ?_
      refine Tr.val (V.assign rfl) rfl ?_
      refine Tr.lNil ?_
      refine Tr.thenN ?_
      refine Tr.ret ?_
      refine Tr.out1 rfl (Res.tmp rfl) fun w hw => ?_
      have hf : fillL (putL nn k) k = putL nn k := by have := fillL_all (putL nn k); rwa [hzl] at this
      have e1 : (xs ++ putW true nn k).map U8 ++ junk = xs.map U8 ++ ((fillL (putL nn k) k).map U8).reverse ++ junk := by rw [hf]; simp [putW]
      have e2 : (xs.map U8 ++ ((fillL (putL nn k) k).map U8).reverse ++ junk).length = c1 := by rw [hf]; simp at hc1 ⊢; omega
      refine ⟨⟨g, c1, junk⟩, by first | rfl | simp, by rw [e1]; exact hw, by rw [e1]; exact e2⟩
    · obtain rfl : big = false := hF1
      obtain rfl : k = sz := by omega
      refine Tr.skip ?_
      refine Tr.thenN ?_
      refine Tr.seq ?_
      refine Tr.region ?_
      refine Tr.val (V.move rfl) rfl ?_
      refine Tr.val (V.assign rfl) rfl ?_
      refine Tr.lNil ?_
      refine Tr.thenN ?_
      refine Tr.ret ?_
      refine Tr.out1 rfl (Res.tmp rfl) fun w hw => ?_
      have hf : fillL (putL nn k) k = putL nn k := by have := fillL_all (putL nn k); rwa [hzl] at this
      have e1 : (xs ++ putW false nn k).map U8 ++ junk = xs.map U8 ++ (fillL (putL nn k) k).map U8 ++ junk := by rw [hf]; simp [putW]
      have e2 : (xs.map U8 ++ (fillL (putL nn k) k).map U8 ++ junk).length = c1 := by rw [hf]; simp at hc1 ⊢; omega
      refine ⟨⟨g, c1, junk⟩, by first | rfl | simp, by rw [e1]; exact hw, by rw [e1]; exact e2⟩

theorem put_nil (i : Int) (nn : BitVec 64) (big : Bool) (w : World) (h1 : 1 ≤ effI i) :
    Calls Try.prog 19 [.slice none 0 0, .int .i64 i, U64 nn, .bool big].toArray w fun r w' => ∃ x : Nat × Nat × List Value, r = .returned (.slice (some ⟨x.1, 0, none⟩) (0 + effI i) x.2.1) ∧ Hp w [] [⟨x.1, 5, (([] : List (BitVec 8)) ++ putW big nn (effI i)).map U8 ++ x.2.2⟩] w' ∧ ((([] : List (BitVec 8)) ++ putW big nn (effI i)).map U8 ++ x.2.2).length = x.2.1 := by
  obtain ⟨sz, hsz⟩ : ∃ sz, sz = effI i := ⟨_, rfl⟩
  have hs8 : sz ≤ 8 := by rw [hsz]; exact effI_le i
  have hse := effI_eq i
  rw [← hsz] at hse h1 ⊢
  have hzl : (putL nn sz).length = sz := putL_len nn sz
  refine Tr.enter Try.func19 rfl Try.ntmps19 rfl (Hp.refl w) ?_
  refine Tr.seq ?_
  refine Tr.region ?_
  refine Tr.val (V.assign rfl) rfl ?_
  refine Tr.lNil ?_
  refine Tr.thenN ?_
  refine Tr.seq ?_
  refine Tr.region ?_
  refine Tr.val (V.move rfl) rfl ?_
  refine Tr.val (V.max rfl rfl rfl) rfl ?_
  refine Tr.val (V.min rfl rfl hse) rfl ?_
  refine Tr.val (V.assign rfl) rfl ?_
  refine Tr.lNil ?_
  refine Tr.thenN ?_
  refine Tr.seq ?_
  refine Tr.region ?_
  refine Tr.val (V.move rfl) rfl ?_
  refine Tr.op (W.call1 (args1 rfl) Try.call39 rfl (fun w _ => clone_nil w) ?_)
  refine Tr.val (V.move rfl) rfl ?_
  refine Tr.op (W.appendNilZ elem22 Try.underlying3 rfl rfl rfl h1 (by omega) (by omega) rfl fun g c1 junk hc1 => ?_)
  have hcap : sz ≤ c1 := by simp at hc1; omega
  refine Tr.val (V.assign rfl) rfl ?_
  refine Tr.lNil ?_
  refine Tr.thenN ?_
  refine Tr.seq ?_
  refine Tr.region ?_
  refine Tr.val (V.move rfl) rfl ?_
  refine Tr.val (V.move rfl) rfl ?_
  refine Tr.val (V.len Try.runUnderlying22 rfl) rfl ?_
  refine Tr.val (V.sliceO (m' := sz) (c' := c1 - 0) (o' := 0) Try.runUnderlying22 Try.sizeOf5 rfl rfl rfl rfl rfl (by omega) hcap (by omega) (by omega) (by omega) rfl) rfl ?_
  refine Tr.val (V.assign rfl) rfl ?_
  refine Tr.lNil ?_
  refine Tr.thenN ?_
  refine Tr.seq ?_
  refine Tr.seq ?_
  refine Tr.region ?_
  refine Tr.val (V.move rfl) rfl ?_
  refine Tr.val (V.len Try.runUnderlying22 rfl) rfl ?_
  refine Tr.val (V.move rfl) rfl ?_
  refine Tr.lNil ?_
  refine Tr.thenN ?_
  refine Tr.block ?_
  refine Tr.loop (ι := Nat) (fun k => k ≤ sz) (fun k => [(2, U64 nn), (3, .bool big), (9, .slice (some ⟨g, 0, none⟩) sz c1), (10, .slice (some ⟨g, 0, none⟩) sz (c1 - 0)), (24, .int .i64 (sz : Int)), (25, .int .i64 (k : Int))]) (fun k => [⟨g, 5, ([] : List Value) ++ (fillL (putL nn sz) k).map U8 ++ junk⟩]) (fun k => sz - k) 0 (Nat.zero_le _) (lk_cons rfl (lk_cons rfl (lk_cons rfl (lk_cons rfl (lk_cons rfl (lk_cons rfl (lk_nil _))))))) (by rw [fillL_zero, hzl, List.map_replicate]; exact List.Sublist.refl _) fun k hI => ?_
  refine Tr.seq ?_
  refine Tr.region ?_
  refine Tr.val (V.lss rfl rfl rfl) rfl ?_
  refine Tr.lNil ?_
  refine Tr.thenN ?_
  refine Tr.seq ?_
  refine Tr.cond rfl (fun hT0 => ?_) (fun hF0 => ?_)
  · simp only [decide_eq_true_eq] at hT0
    have hlt : k < sz := by omega
    have hset : (([] : List Value) ++ (fillL (putL nn sz) k).map U8 ++ junk).set (0 + k) (U8 ((nn >>> (8 * k)).setWidth 8)) = ([] : List Value) ++ (fillL (putL nn sz) (k + 1)).map U8 ++ junk := by
      rw [set_mid _ _ _ k _ _ (by simp; try omega) (by rw [List.length_map, fillL_len (by omega)]; omega), ← fillL_set (putL_get nn hlt), List.map_set]
    refine Tr.skip ?_
    refine Tr.thenN ?_
    refine Tr.seq ?_
    refine Tr.block ?_
    refine Tr.seq ?_
    refine Tr.region ?_
    refine Tr.val (V.move rfl) rfl ?_
    refine Tr.val (V.assign rfl) rfl ?_
    refine Tr.lNil ?_
    refine Tr.thenN ?_
    refine Tr.region ?_
    refine Tr.val (V.move rfl) rfl ?_
    refine Tr.val (V.move rfl) rfl ?_
    refine Tr.val (V.move rfl) rfl ?_
    refine Tr.val (V.move rfl) rfl ?_
    refine Tr.val (V.mulN (a := 8) rfl rfl (by omega)) rfl ?_
    refine Tr.val (V.shr64 rfl rfl) rfl ?_
    refine Tr.val (V.conv64_8 Try.runUnderlying23 Try.runUnderlying5 rfl) rfl ?_
    refine Tr.val (V.idxO (j := k) Try.runUnderlying22 Try.sizeOf5 rfl rfl (by omega) (by omega) rfl) rfl ?_
    refine Tr.op (W.store1 Try.sizeOf5 rfl rfl rfl rfl (by repeat (first | exact Upd.head | apply Upd.tail)) (by simp [fillL_len (show k ≤ (putL nn sz).length by omega)]; omega) ?_)
    refine Tr.lNil ?_
    refine Tr.inN ?_
    refine Tr.thenN ?_
    refine Tr.region ?_
    refine Tr.val (V.add rfl rfl (by omega)) rfl ?_
    refine Tr.val (V.move rfl) rfl ?_
    refine Tr.lNil ?_
    exact Tr.again (k + 1) (by omega) (by omega) (lk_cons rfl (lk_cons rfl (lk_cons rfl (lk_cons rfl (lk_cons rfl (lk_cons rfl (lk_nil _))))))) (by rw [← hset]; exact List.Sublist.refl _)
  · simp only [decide_eq_false_iff_not] at hF0
    refine Tr.exit ?_
    refine Tr.thenX ?_
    refine Tr.thenX ?_
    refine Tr.inHit ?_
    refine Tr.thenN ?_
    refine Tr.seq ?_
    refine Tr.seq ?_
    refine Tr.region ?_
    refine Tr.val (V.move rfl) rfl ?_
    refine Tr.lNil ?_
    refine Tr.thenN ?_
    refine Tr.cond rfl (fun hT1 => ?_) (fun hF1 => ?_)
    · obtain rfl : big = true := hT1
      obtain rfl : k = sz := by omega
      refine Tr.region ?_
      refine Tr.val (V.move rfl) rfl ?_
      refine Tr.op (W.callM (v := .tuple #[]) (x := ⟨g, 5, ([] : List Value) ++ (fillL (putL nn k) k).map U8 ++ junk⟩) (y := ⟨g, 5, ([] : List Value) ++ ((fillL (putL nn k) k).map U8).reverse ++ junk⟩)  (args1 rfl) Try.call40 rfl Upd.head rfl (fun w hw hb => reverse_own g 0 k (c1 - 0) _ _ _ _ w hb (by simp; try omega) (by rw [List.length_map, fillL_len (by omega), hzl]) (by omega) (by intro v hv; obtain ⟨b, _, rfl⟩ := List.mem_map.1 hv; exact ⟨rfl, rfl⟩)) ?_)
      refine Tr.lNil ?_
      refine Tr.thenN ?_
      refine Tr.seq ?_
      refine Tr.region ?_
      refine Tr.val (V.move rfl) rfl ?_
      refine Tr.val (V.assign rfl) rfl ?_
      refine Tr.lNil ?_
      refine Tr.thenN ?_
      refine Tr.ret ?_
      refine Tr.out1 rfl (Res.tmp rfl) fun w hw => ?_
      have hf : fillL (putL nn k) k = putL nn k := by have := fillL_all (putL nn k); rwa [hzl] at this
      have e1 : (([] : List (BitVec 8)) ++ putW true nn k).map U8 ++ junk = ([] : List Value) ++ ((fillL (putL nn k) k).map U8).reverse ++ junk := by rw [hf]; simp [putW]
      have e2 : (([] : List Value) ++ ((fillL (putL nn k) k).map U8).reverse ++ junk).length = c1 := by rw [hf]; simp at hc1 ⊢; omega
      refine ⟨⟨g, c1, junk⟩, by first | rfl | simp, by rw [e1]; exact hw, by rw [e1]; exact e2⟩
    · obtain rfl : big = false := hF1
      obtain rfl : k = sz := by omega
      refine Tr.skip ?_
      refine Tr.thenN ?_
      refine Tr.seq ?_
      refine Tr.region ?_
      refine Tr.val (V.move rfl) rfl ?_
      refine Tr.val (V.assign rfl) rfl ?_
      refine Tr.lNil ?_
      refine Tr.thenN ?_
      refine Tr.ret ?_
      refine Tr.out1 rfl (Res.tmp rfl) fun w hw => ?_
      have hf : fillL (putL nn k) k = putL nn k := by have := fillL_all (putL nn k); rwa [hzl] at this
      have e1 : (([] : List (BitVec 8)) ++ putW false nn k).map U8 ++ junk = ([] : List Value) ++ (fillL (putL nn k) k).map U8 ++ junk := by rw [hf]; simp [putW]
      have e2 : (([] : List Value) ++ (fillL (putL nn k) k).map U8 ++ junk).length = c1 := by rw [hf]; simp at hc1 ⊢; omega
      refine ⟨⟨g, c1, junk⟩, by first | rfl | simp, by rw [e1]; exact hw, by rw [e1]; exact e2⟩

theorem put_zero (ad : Addr) (m c : Nat) (xs : List (BitVec 8)) (i : Int) (nn : BitVec 64) (big : Bool) (w : World) (hr : RdB w (some ad) (xs.map U8)) (hl : xs.length = m) (hm : m ≤ 140737488355000) (h1 : effI i = 0) :
    Calls Try.prog 19 [.slice (some ad) m c, .int .i64 i, U64 nn, .bool big].toArray w fun r w' => ∃ x : Nat × Nat × List Value, r = .returned (.slice (some ⟨x.1, 0, none⟩) (m + effI i) x.2.1) ∧ Hp w [] [⟨x.1, 5, (xs ++ putW big nn (effI i)).map U8 ++ x.2.2⟩] w' ∧ ((xs ++ putW big nn (effI i)).map U8 ++ x.2.2).length = x.2.1 := by
  obtain ⟨sz, hsz⟩ : ∃ sz, sz = effI i := ⟨_, rfl⟩
  have hs8 : sz ≤ 8 := by rw [hsz]; exact effI_le i
  have hse := effI_eq i
  rw [← hsz] at hse h1 ⊢
  have hzl : (putL nn sz).length = sz := putL_len nn sz
  refine Tr.enter Try.func19 rfl Try.ntmps19 rfl (Hp.refl w) ?_
  refine Tr.seq ?_
  refine Tr.region ?_
  refine Tr.val (V.assign rfl) rfl ?_
  refine Tr.lNil ?_
  refine Tr.thenN ?_
  refine Tr.seq ?_
  refine Tr.region ?_
  refine Tr.val (V.move rfl) rfl ?_
  refine Tr.val (V.max rfl rfl rfl) rfl ?_
  refine Tr.val (V.min rfl rfl hse) rfl ?_
  refine Tr.val (V.assign rfl) rfl ?_
  refine Tr.lNil ?_
  refine Tr.thenN ?_
  refine Tr.seq ?_
  refine Tr.region ?_
  refine Tr.val (V.move rfl) rfl ?_
  refine Tr.op (W.call (val := fun x : Nat × Nat × List Value => .slice (some ⟨x.1, 0, none⟩) m x.2.1) (N := fun x => [⟨x.1, 5, xs.map U8 ++ x.2.2⟩]) (Px := fun x => (xs.map U8 ++ x.2.2).length = x.2.1)  (args1 rfl) Try.call39 rfl (fun w hw => clone_some ad m c xs w ((RdP.old hr (fun _ _ => by simp)).now hw) hl (by omega)) ?_)
  rintro ⟨g0, c0, junk0⟩ hc0
  refine Tr.val (V.move rfl) rfl ?_
  refine Tr.op (W.appendZ elem22 Try.underlying3 rfl rfl rfl rfl (fun y => .head) (by rw [List.length_map]; exact hl) hc0 (by omega) (by omega) (by omega) rfl fun g c1 junk hc1 => ?_)
  have hcap : m + sz ≤ c1 := by simp at hc1; omega
  refine Tr.val (V.assign rfl) rfl ?_
  refine Tr.lNil ?_
  refine Tr.thenN ?_
  refine Tr.seq ?_
  refine Tr.region ?_
  refine Tr.val (V.move rfl) rfl ?_
  refine Tr.val (V.move rfl) rfl ?_
  refine Tr.val (V.len Try.runUnderlying22 rfl) rfl ?_
  refine Tr.val (V.sliceS Try.runUnderlying22 Try.sizeOf5 rfl rfl rfl rfl rfl (by omega) hcap) rfl ?_
  refine Tr.val (V.assign rfl) rfl ?_
  refine Tr.lNil ?_
  refine Tr.thenN ?_
  refine Tr.seq ?_
  refine Tr.seq ?_
  refine Tr.region ?_
  refine Tr.val (V.move rfl) rfl ?_
  refine Tr.val (V.len Try.runUnderlying22 rfl) rfl ?_
  refine Tr.val (V.move rfl) rfl ?_
  refine Tr.lNil ?_
  refine Tr.thenN ?_
  refine Tr.block ?_
  refine Tr.loop (ι := Unit) (fun _ => True) (fun _ => [(3, .bool big), (9, .slice (some ⟨g, 0, none⟩) (m + sz) c1), (10, .slice (if c1 = m then some ⟨g, 0, none⟩ else (some ⟨g, 0, none⟩ : Option Addr).map (·.add m)) (m + sz - m) (c1 - m)), (24, .int .i64 ((m + sz - m : Nat) : Int)), (25, .int .i64 0)]) (fun _ => [⟨g, 5, xs.map U8 ++ List.replicate sz (.int .u8 0) ++ junk⟩]) (fun _ => 0) () trivial (lk_cons rfl (lk_cons rfl (lk_cons rfl (lk_cons rfl (lk_cons rfl (lk_nil _)))))) (List.Sublist.refl _) fun _ hI => ?_
  refine Tr.seq ?_
  refine Tr.region ?_
  refine Tr.val (V.lss (b := false) rfl rfl (decide_eq_false (by omega))) rfl ?_
  refine Tr.lNil ?_
  refine Tr.thenN ?_
  refine Tr.seq ?_
  refine Tr.condF rfl ?_
  refine Tr.exit ?_
  refine Tr.thenX ?_
  refine Tr.thenX ?_
  refine Tr.inHit ?_
  refine Tr.thenN ?_
  refine Tr.seq ?_
  refine Tr.seq ?_
  refine Tr.region ?_
  refine Tr.val (V.move rfl) rfl ?_
  refine Tr.lNil ?_
  refine Tr.thenN ?_
  refine Tr.cond rfl (fun hT1 => ?_) (fun hF1 => ?_)
  · refine Tr.region ?_
    refine Tr.val (V.move rfl) rfl ?_
    refine Tr.op (W.call1 (args1 rfl) Try.call40 rfl (fun w _ => by rw [show m + sz - m = 0 from by omega]; exact reverse_nil _ _ w) ?_)
    refine Tr.lNil ?_
    refine Tr.thenN ?_
    refine Tr.seq ?_
    refine Tr.region ?_
    refine Tr.val (V.move rfl) rfl ?_
    refine Tr.val (V.assign rfl) rfl ?_
    refine Tr.lNil ?_
    refine Tr.thenN ?_
    refine Tr.ret ?_
    refine Tr.out1 rfl (Res.tmp rfl) fun w hw => ?_
    obtain rfl : sz = 0 := h1
    refine ⟨⟨g, c1, junk⟩, rfl, ?_, ?_⟩
    · have e1 : (xs ++ putW big nn 0).map U8 ++ junk = xs.map U8 ++ List.replicate 0 (.int .u8 0) ++ junk := by cases big <;> simp [putW, putL]
      rw [e1]; exact hw
    · have e1 : (xs ++ putW big nn 0).map U8 ++ junk = xs.map U8 ++ List.replicate 0 (.int .u8 0) ++ junk := by cases big <;> simp [putW, putL]
      rw [e1]; exact hc1
  · refine Tr.skip ?_
    refine Tr.thenN ?_
    refine Tr.seq ?_
    refine Tr.region ?_
    refine Tr.val (V.move rfl) rfl ?_
    refine Tr.val (V.assign rfl) rfl ?_
    refine Tr.lNil ?_
    refine Tr.thenN ?_
    refine Tr.ret ?_
    refine Tr.out1 rfl (Res.tmp rfl) fun w hw => ?_
    obtain rfl : sz = 0 := h1
    refine ⟨⟨g, c1, junk⟩, rfl, ?_, ?_⟩
    · have e1 : (xs ++ putW big nn 0).map U8 ++ junk = xs.map U8 ++ List.replicate 0 (.int .u8 0) ++ junk := by cases big <;> simp [putW, putL]
      rw [e1]; exact hw
    · have e1 : (xs ++ putW big nn 0).map U8 ++ junk = xs.map U8 ++ List.replicate 0 (.int .u8 0) ++ junk := by cases big <;> simp [putW, putL]
      rw [e1]; exact hc1

end Go.Proofs.Ytnhfmmohdiccgaa
