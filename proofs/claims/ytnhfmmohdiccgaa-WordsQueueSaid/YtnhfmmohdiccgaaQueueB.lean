/-
  Contracts of words.Queue: All, what it hands back; Push, Pop, Len over rows. (Printed by a program of this session over its walk printer.)
-/
import Derived.Test.YtnhfmmohdiccgaaQueueA
import Derived.Test.YtnhfmmohdiccgaaSymS
namespace Go.Proofs.Ytnhfmmohdiccgaa
open Go.Sym Plain
set_option linter.unusedVariables false
set_option maxRecDepth 20000

theorem qall_any (q : Nat) (w : World) : Calls Try.prog 34 [.pointer (some ⟨q, 0, none⟩)].toArray w fun r w' => ∃ b : Nat, r = .returned (.func (.func 43) #[] #[.pointer (some ⟨b, 0, none⟩)]) ∧ Hp w [] [⟨b, 41, [.pointer (some ⟨q, 0, none⟩)]⟩] w' ∧ True := by
  refine Tr.enter Try.func34 rfl Try.ntmps34 rfl (Hp.refl w) ?_
  refine Tr.seq ?_
  refine Tr.region ?_
  refine Tr.op (W.box (cs := [.pointer (some ⟨q, 0, none⟩)]) rfl rfl rfl fun g1 => ?_)
  refine Tr.val (V.assign rfl) rfl ?_
  refine Tr.lNil ?_
  refine Tr.thenN ?_
  refine Tr.seq ?_
  refine Tr.region ?_
  refine Tr.val (V.makeFunc rfl) rfl ?_
  refine Tr.val (V.assign rfl) rfl ?_
  refine Tr.lNil ?_
  refine Tr.thenN ?_
  refine Tr.ret ?_
  refine Tr.out1 rfl (Res.tmp rfl) fun w hw => ?_
  exact ⟨g1, rfl, hw, trivial⟩

set_option maxHeartbeats 1000000 in
theorem qiter_stops (q b : Nat) (p : Option Addr) (c : Nat) (room : Int) (vs : List Int) (Lq : List Ent) (w : World) (hl : Lies Lq w) (hnd : (Lq.map (·.g)).Nodup) (hb : (⟨b, 41, [.pointer (some ⟨q, 0, none⟩)]⟩ : Ent) ∈ Lq) (hq : QB q p vs.length c room ∈ Lq)
    (hrd : ∀ (B : World) (E : List Nat), RdP B E Lq p (vs.map IV)) (hp : 0 < vs.length → p.isSome = true) (hm : vs.length ≤ 1000) :
    SeqStopsK Fence.wide 2 Try.prog 43 #[.pointer (some ⟨b, 0, none⟩)] (fun x : Int => #[IV x]) (KeepL Lq) (fun ys => ys = vs) (fun pre => pre <+: vs) vs.length w := by
  intro l J Jx W hW hJ hJx hY h0
  have hF : Broad Fence.wide := Broad.wide
  have hLW : Lies Lq W := fun x hx => (hW.block x.g (Array.getElem?_eq_some_iff.1 (hl x hx)).1).trans (hl x hx)
  have hgJ : ∀ {pre : List Int} {B w1 : World}, Lies Lq B → Hp B (Lq.map (·.g)) Lq w1 → J pre B → J pre w1 := fun hb hh hj => hJ _ _ _ none hj (Hp.grown hb hh) (fun r e => by cases e)
  rw [arr2]
  refine Tr.enterN Try.func43 rfl Try.ntmps43 rfl (Hp.again hLW hnd) ?_
  refine Tr.seqN ?_
  refine Tr.regionN ?_
  refine Tr.valN hF rfl (V.load1 Try.isAgg41 rfl (V.cellB hb rfl)) rfl ?_
  refine Tr.valN hF rfl (V.nilCheck rfl) rfl ?_
  refine Tr.valN hF rfl (V.fieldS (o' := 0) Try.runUnderlying65 rfl rfl Try.sizeOf40 (by omega) rfl) rfl ?_
  refine Tr.valN hF rfl (V.load1 Try.isAgg40 rfl (V.cellB hq rfl)) rfl ?_
  refine Tr.valN hF rfl (V.len Try.runUnderlying40 rfl) rfl ?_
  refine Tr.valN hF rfl (V.move rfl) rfl ?_
  refine Tr.lNilN ?_
  refine Tr.thenN ?_
  refine Tr.blockN ?_
  intro a1 w1 he1 hw1
  refine loopN vs.length (fun k a w => EnvOK 19 [(0, .func (.yield l) #[] #[]), (8, .slice p vs.length c), (9, .int .i64 (vs.length : Int)), (10, .int .i64 (k : Int))] a ∧ J (vs.take k) w ∧ Lies Lq w) ?_ ⟨he1.weak (lk_cons rfl (lk_cons rfl (lk_cons rfl (lk_cons rfl (lk_nil _))))), hgJ hLW hw1 h0, hw1.lies⟩
  intro k a wr hk hI
  obtain ⟨he, hj, hlr⟩ := hI
  rcases Nat.lt_or_ge k vs.length with hlt | hge
  · obtain ⟨x, hx⟩ : ∃ x, vs[k]? = some x := ⟨_, List.getElem?_eq_getElem hlt⟩
    have htk : vs.take k ++ [x] = vs.take (k + 1) := by rw [List.take_add_one, hx]; rfl
    refine (show Tr 19 _ wr (Lq.map (·.g)) Lq _ from ?_) a wr he (Hp.again hlr hnd)
    refine Tr.seqN ?_
    refine Tr.regionN ?_
    refine Tr.valN hF rfl (V.lss (b := true) rfl rfl (decide_eq_true (by omega))) rfl ?_
    refine Tr.lNilN ?_
    refine Tr.thenN ?_
    refine Tr.seqN ?_
    refine Tr.condTN rfl ?_
    refine Tr.skipN ?_
    refine Tr.thenN ?_
    refine Tr.seqN ?_
    refine Tr.blockN ?_
    refine Tr.seqN ?_
    refine Tr.regionN ?_
    refine Tr.valN hF rfl (V.idxS (j := k) Try.runUnderlying40 Try.sizeOf3 rfl rfl (by omega) (by omega) (hp (by omega))) rfl ?_
    refine Tr.valN hF rfl (V.load1 Try.isAgg3 rfl (V.cellR (hrd _ _) (by rw [List.getElem?_map, hx]; rfl))) rfl ?_
    refine Tr.valN hF rfl (V.assign rfl) rfl ?_
    refine Tr.lNilN ?_
    refine Tr.thenN ?_
    refine Tr.seqN ?_
    refine Tr.regionN ?_
    refine Tr.valN hF rfl (V.move rfl) rfl ?_
    refine Tr.valN hF rfl (V.move rfl) rfl ?_
    refine Tr.yield hF rfl rfl rfl (T := fun w3 => J (vs.take (k + 1)) w3 ∧ Lies Lq w3) (S := fun w3 => Jx (vs.take (k + 1)) w3) (fun w2 hw2 => ?_) ?_ ?_
    · obtain ⟨fn, tmps, asg, bod, h1, h2⟩ := hY (vs.take k) x w2 (hgJ hlr hw2 hj) (by rw [List.length_take]; omega)
      refine ⟨fn, tmps, asg, bod, h1, h2.mono fun e w3 h3 => ?_⟩
      rw [htk] at h3
      rcases h3 with ⟨rfl, h4, h5⟩ | ⟨rfl, h4⟩
      · exact .inl ⟨rfl, h4, h5.lies hw2.lies⟩
      · exact .inr ⟨rfl, h4⟩
    · intro w3 h3 a3 he3
      obtain ⟨hj3, hl3⟩ := h3
      refine (show Tr 19 _ w3 (Lq.map (·.g)) Lq _ from ?_) a3 w3 he3 (Hp.again hl3 hnd)
      refine Tr.valN hF rfl (V.not rfl) rfl ?_
      refine Tr.lNilN ?_
      refine Tr.thenN ?_
      refine Tr.condFN rfl ?_
      refine Tr.skipN ?_
      refine Tr.inN ?_
      refine Tr.thenN ?_
      refine Tr.regionN ?_
      refine Tr.valN hF rfl (V.addN (b := 1) rfl rfl (by omega)) rfl ?_
      refine Tr.valN hF rfl (V.move rfl) rfl ?_
      refine Tr.lNilN ?_
      exact fun a4 w4 he4 hw4 => ⟨⟨he4.weak (lk_cons rfl (lk_cons rfl (lk_cons rfl (lk_cons (congrArg some (congrArg (Value.int .i64) (by omega))) (lk_nil _))))), hgJ hl3 hw4 hj3, hw4.lies⟩, hlt⟩
    · intro w3 hj3 a3 he3
      refine (show Tr 19 _ w3 [] [] _ from ?_) a3 w3 he3 (Hp.refl w3)
      refine Tr.valN hF rfl (V.not rfl) rfl ?_
      refine Tr.lNilN ?_
      refine Tr.thenN ?_
      refine Tr.condTN rfl ?_
      refine Tr.retN ?_
      refine Tr.inR ?_
      refine Tr.thenR ?_
      refine Tr.thenR ?_
      refine Tr.inR ?_
      refine Tr.out0R rfl fun w hw => ?_
      exact ⟨⟨_, rfl⟩, .inr ⟨_, List.take_prefix _ _, hJx _ _ _ none hj3 (Hp.grown (L := []) (fun _ h => by cases h) hw) (fun r e => by cases e)⟩⟩
  · obtain rfl : k = vs.length := by omega
    refine (show Tr 19 _ wr (Lq.map (·.g)) Lq _ from ?_) a wr he (Hp.again hlr hnd)
    refine Tr.seqN ?_
    refine Tr.regionN ?_
    refine Tr.valN hF rfl (V.lss (b := false) rfl rfl (decide_eq_false (by omega))) rfl ?_
    refine Tr.lNilN ?_
    refine Tr.thenN ?_
    refine Tr.seqN ?_
    refine Tr.condFN rfl ?_
    refine Tr.exitN ?_
    refine Tr.thenX ?_
    refine Tr.thenX ?_
    refine Tr.inHit ?_
    refine Tr.out0 rfl fun w hw => ?_
    exact ⟨⟨_, rfl⟩, .inl ⟨_, rfl, by rw [← List.take_length (l := vs)]; exact hgJ hlr hw hj⟩⟩

end Go.Proofs.Ytnhfmmohdiccgaa
