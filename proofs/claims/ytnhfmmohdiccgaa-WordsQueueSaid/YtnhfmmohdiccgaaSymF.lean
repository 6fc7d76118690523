/-
  Rules of the walk for code: sequences, tests, blocks, loops, regions in an order that is drawn, calls, the way in and the way out.
-/
import Derived.Test.YtnhfmmohdiccgaaSymE
namespace Go.Sym
section
variable {P : Program} {n : Nat} {e : Env} {B : World} {E : List Nat} {L L' : List Ent} {ops : Array Oper} {Q : Exit → Act → World → Prop} {rest : List Oper} {K : Act → World → Prop}

/-! ### Code -/
theorem Tr.seq {x y : Code} (h : Tr n e B E L (Code.wp P x (Exit.then (Code.wp P y Q) Q))) : Tr n e B E L (Code.wp P (.seq x y) Q) := fun a w he hw => wp_seq (h a w he hw)
theorem Tr.skip (h : Tr n e B E L (Q .normal)) : Tr n e B E L (Code.wp P .skip Q) := fun a w he hw => wp_skip (h a w he hw)
theorem Tr.exit {id : Nat} (h : Tr n e B E L (Q (.exit id))) : Tr n e B E L (Code.wp P (.exit id) Q) := fun a w he hw => wp_exit (h a w he hw)
theorem Tr.ret (h : Tr n e B E L (Q .ret)) : Tr n e B E L (Code.wp P .ret Q) := fun a w he hw => wp_ret (h a w he hw)
theorem Tr.block {id : Nat} {c : Code} (h : Tr n e B E L (Code.wp P c (Exit.inBlock id Q))) : Tr n e B E L (Code.wp P (.block id c) Q) := fun a w he hw => wp_block (h a w he hw)
theorem Tr.cond {c : Operand} {x y : Code} {b : Bool} (hc : ev e c = some (.bool b)) (ht : b = true → Tr n e B E L (Code.wp P x Q)) (hf : b = false → Tr n e B E L (Code.wp P y Q)) : Tr n e B E L (Code.wp P (.cond c x y) Q) := fun a w he hw =>
  wp_cond_split (he.eval hc) (fun h => ht h a w he hw) (fun h => hf h a w he hw)
theorem Tr.condT {c : Operand} {x y : Code} (hc : ev e c = some (.bool true)) (ht : Tr n e B E L (Code.wp P x Q)) : Tr n e B E L (Code.wp P (.cond c x y) Q) := fun a w he hw => wp_cond_true (he.eval hc) (ht a w he hw)
theorem Tr.condF {c : Operand} {x y : Code} (hc : ev e c = some (.bool false)) (hf : Tr n e B E L (Code.wp P y Q)) : Tr n e B E L (Code.wp P (.cond c x y) Q) := fun a w he hw => wp_cond_false (he.eval hc) (hf a w he hw)
theorem Tr.region {id : Nat} {l : List Oper} (h : Tr n e B E L (wpList P l.toArray Q l)) : Tr n e B E L (Code.wp P (.region id l.toArray false) Q) := fun a w he hw => wp_region_lit (h a w he hw)
theorem Tr.lNil (h : Tr n e B E L (Q .normal)) : Tr n e B E L (wpList P ops Q []) := fun a w he hw => wpList_nil (h a w he hw)
/-! the ways on -/
theorem Tr.thenN {K : Act → World → Prop} (h : Tr n e B E L K) : Tr n e B E L (Exit.then K Q .normal) := fun a w he hw => h a w he hw
theorem Tr.thenX {id : Nat} (h : Tr n e B E L (Q (.exit id))) : Tr n e B E L (Exit.then K Q (.exit id)) := fun a w he hw => h a w he hw
theorem Tr.thenR (h : Tr n e B E L (Q .ret)) : Tr n e B E L (Exit.then K Q .ret) := fun a w he hw => h a w he hw
theorem Tr.inN {id : Nat} (h : Tr n e B E L (Q .normal)) : Tr n e B E L (Exit.inBlock id Q .normal) := fun a w he hw => h a w he hw
theorem Tr.inR {id : Nat} (h : Tr n e B E L (Q .ret)) : Tr n e B E L (Exit.inBlock id Q .ret) := fun a w he hw => h a w he hw
theorem Tr.inHit {id : Nat} (h : Tr n e B E L (Q .normal)) : Tr n e B E L (Exit.inBlock id Q (.exit id)) := fun a w he hw => by
  simp only [Exit.inBlock, if_true]; exact h a w he hw
theorem Tr.inMiss {id id' : Nat} (hne : Nat.beq id' id = false) (h : Tr n e B E L (Q (.exit id'))) : Tr n e B E L (Exit.inBlock id Q (.exit id')) := fun a w he hw => by
  have : id' ≠ id := Nat.ne_of_beq_eq_false hne
  simp only [Exit.inBlock, this, if_false]; exact h a w he hw

/-! ### Loops -/
/-- What stands at the head of a round: one of the states that the invariant tells of, nearer the end. -/
def Head (n : Nat) (B : World) (E : List Nat) {ι : Type} (Inv : ι → Prop) (env : ι → Env) (blk : ι → List Ent) (μ : ι → Nat) (m : Nat) : Act → World → Prop :=
  fun a w => ∃ j, Inv j ∧ μ j < m ∧ EnvOK n (env j) a ∧ Hp B E (blk j) w

theorem wp_loop_ind {c : Code} {ι : Type} (Inv : ι → Prop) (I : ι → Act → World → Prop) (μ : ι → Nat)
    (round : ∀ i a w, Inv i → I i a w → c.wp P (Exit.then (fun a' w' => ∃ j, Inv j ∧ μ j < μ i ∧ I j a' w') Q) a w) : ∀ i a w, Inv i → I i a w → (Code.loop c).wp P Q a w := by
  intro i a w hi hI b k cs
  have key : ∀ m i a w, μ i = m → Inv i → I i a w →
      ∃ e a' w', Q e a' w' ∧ Arrives P (lone (b.at a (.code c :: .inLoop c :: k)) cs w) b k cs e a' w' := by
    intro m
    induction m using Nat.strongRecOn with
    | _ m ih =>
      intro i a w hn hi hI
      obtain ⟨e, a₁, w₁, hq, harr⟩ := round i a w hi hI b (.inLoop c :: k) cs
      cases e with
      | normal =>
        obtain ⟨j, hj, hlt, hI₁⟩ := hq
        obtain ⟨e₂, a₂, w₂, hq₂, harr₂⟩ := ih (μ j) (hn ▸ hlt) j a₁ w₁ rfl hj hI₁
        exact ⟨e₂, a₂, w₂, hq₂, .of_steps (Steps.trans harr (.one step_inLoop)) harr₂⟩
      | exit id => exact ⟨_, a₁, w₁, hq, .pass (x := .inLoop c) rfl (fun _ _ => .inl (by simp)) harr⟩
      | goto l => exact ⟨_, a₁, w₁, hq, .pass (x := .inLoop c) rfl (fun _ _ => .inl (by simp)) harr⟩
      | ret => exact ⟨_, a₁, w₁, hq, .pass (x := .inLoop c) rfl (fun _ _ => .inl (by simp)) harr⟩
      | panic ch => exact ⟨_, a₁, w₁, hq, .pass (x := .inLoop c) rfl (fun _ _ => .inl (by simp)) harr⟩
      | outgrown => exact ⟨_, a₁, w₁, hq, .pass (x := .inLoop c) rfl (fun _ _ => .inl (by simp)) harr⟩
  obtain ⟨e, a', w', hq, harr⟩ := key _ i a w rfl hi hI
  exact ⟨e, a', w', hq, .of_steps (.one step_loop) harr⟩

theorem Tr.loop {c : Code} {ι : Type} (Inv : ι → Prop) (env : ι → Env) (blk : ι → List Ent) (μ : ι → Nat) (i : ι) (hi : Inv i) (he : ∀ k v, lk (env i) k = some v → lk e k = some v) (hL : (blk i).Sublist L)
    (round : ∀ i, Inv i → Tr n (env i) B E (blk i) (Code.wp P c (Exit.then (Head n B E Inv env blk μ (μ i)) Q))) : Tr n e B E L (Code.wp P (.loop c) Q) := fun a w ha hw =>
  wp_loop_ind Inv (fun i a w => EnvOK n (env i) a ∧ Hp B E (blk i) w) μ (fun i a _ hi hI => round i hi a _ hI.1 hI.2) i a w hi ⟨ha.weak he, hw.sub hL⟩
theorem Tr.again {ι : Type} {Inv : ι → Prop} {env : ι → Env} {blk : ι → List Ent} {μ : ι → Nat} {m : Nat} (j : ι) (hj : Inv j) (hm : μ j < m) (he : ∀ k v, lk (env j) k = some v → lk e k = some v) (hL : (blk j).Sublist L) :
    Tr n e B E L (Exit.then (Head n B E Inv env blk μ m) Q .normal) := fun _ _ ha hw => ⟨j, hj, hm, ha.weak he, hw.sub hL⟩

/-! ### Regions that draw their order -/
theorem Hp.ext0 {w w' : World} (h : Hp w [] [] w') : Ext0 w w' := ⟨h.os, h.tape, h.output, h.size, fun k hk => h.old k hk (by simp)⟩
theorem Hp.closed : Closed (Hp B E L) := fun x y hx h => ⟨h.os.trans hx.os, h.tape.trans hx.tape, h.output.trans hx.output, Nat.le_trans hx.size h.size, fun k hk hE => (h.old k (Nat.lt_of_lt_of_le hk hx.size)).trans (hx.old k hk hE),
  fun z hz => ⟨(h.old z.g (hx.lt hz)).trans (hx.blk z hz).1, (hx.blk z hz).2⟩, hx.apart⟩
/-- A plan's way on, from the states that are told. -/
def TrP (P : Program) (ops : Array Oper) (Q : Exit → Act → World → Prop) (n : Nat) (e : Env) (B : World) (E : List Nat) (L : List Ent) (T : List Nat) (plan : Plan) : Prop := ∀ a, EnvOK n e a → wpPlan P ops Q T plan (Hp B E L) a
theorem Tr.regionD {id : Nat} {l : List Oper} (A T : List Nat) (plan : Plan) (hm : P.follows .mixedOrders = true) (hB : regionB l.toArray A T plan = true)
    (h : TrP P l.toArray (NoPanic Q) n e B E L T plan) : Tr n e B E L (Code.wp P (.region id l.toArray true) Q) := fun a w he hw =>
  wp_region_plan A T plan hm hB _ (hw.drawn (w.drawn + 1)) (h a he)
section
variable {T : List Nat} {i j : Nat} {p q : Plan} {dst : Option Tmp} {d : Nat} {op : Op} {ty : TypeId} {pos : String} {af : Array Edge} {v : Value}
theorem soft_val {o : Oper} {a : Act} (hw : Region.wanted o (yielded ops a.tmps) = true) (h : ∀ w, Hp B E L w → (execOp a.eval o).run P w = .ok (.value v) w) : Soft P ops (Hp B E L) o v a :=
  .inl ⟨hw, fun w hp => by rw [h w hp]; exact ⟨rfl, rfl⟩⟩
theorem TrP.pure (ho : ops[i]? = some ⟨some d, op, ty, pos, af, none⟩) (hv : ∀ B, VOp P n e B [] [] op ty v) (hd : Nat.blt d n = true) (h : TrP P ops Q n ((d, v) :: e) B E L T p) : TrP P ops Q n e B E L T (.pure i p) := fun a he =>
  ⟨_, v, ho, .inl ⟨by simp [Region.wanted], fun w _ => hv w a w _ _ _ _ he (Hp.refl w)⟩, Hp.closed, h _ (he.put hd v)⟩
theorem TrP.pureG {b : Bool} {k : Nat} (ho : ops[i]? = some ⟨some d, op, ty, pos, af, some (k, b)⟩) (hg : gv ops e k = some b) (hv : ∀ B, VOp P n e B [] [] op ty v) (hd : Nat.blt d n = true) (h : TrP P ops Q n ((d, v) :: e) B E L T p) : TrP P ops Q n e B E L T (.pure i p) := fun a he =>
  ⟨_, v, ho, .inl ⟨by simp [Region.wanted, yielded_of_gv he hg], fun w _ => hv w a w _ _ _ _ he (Hp.refl w)⟩, Hp.closed, h _ (he.put hd v)⟩
theorem TrP.skip {b c : Bool} {k : Nat} (ho : ops[i]? = some ⟨some d, op, ty, pos, af, some (k, b)⟩) (hg : gv ops e k = some c) (hb : (c == b) = false) (hd : Nat.blt d n = true) (h : TrP P ops Q n ((d, undef) :: e) B E L T p) : TrP P ops Q n e B E L T (.pure i p) := fun a he =>
  ⟨_, undef, ho, .inr ⟨by simp only [Region.wanted, yielded_of_gv he hg]; simpa using hb, rfl⟩, Hp.closed, h _ (he.put hd _)⟩
theorem TrP.soft (ho : ops[i]? = some ⟨some d, op, ty, pos, af, none⟩) (hv : VOp P n e B E L op ty v) (hd : Nat.blt d n = true) (h : TrP P ops Q n ((d, v) :: e) B E L T p) : TrP P ops Q n e B E L T (.soft i p) := fun a he =>
  ⟨_, v, ho, soft_val (by simp [Region.wanted]) fun w hw => hv a w _ _ _ _ he hw, Hp.closed, h _ (he.put hd v)⟩
theorem TrP.softG {b : Bool} {k : Nat} (ho : ops[i]? = some ⟨some d, op, ty, pos, af, some (k, b)⟩) (hg : gv ops e k = some b) (hv : VOp P n e B E L op ty v) (hd : Nat.blt d n = true) (h : TrP P ops Q n ((d, v) :: e) B E L T p) : TrP P ops Q n e B E L T (.soft i p) := fun a he =>
  ⟨_, v, ho, soft_val (by simp [Region.wanted, yielded_of_gv he hg]) fun w hw => hv a w _ _ _ _ he hw, Hp.closed, h _ (he.put hd v)⟩
theorem soft_call {f : FuncId} {args : Array Operand} {ats : Array TypeId} {vs : List Value} {g : Option (Nat × Bool)} {a : Act} (he : EnvOK n e a) (hw : Region.wanted ⟨some d, .call ⟨.value (.func f), args, ats⟩, ty, pos, af, g⟩ (yielded ops a.tmps) = true)
    (hx : ∀ a, EnvOK n e a → args.map a.eval = vs.toArray) (hf : ∀ xs w, (callFunc f xs).run P w = .ok (.enter f xs) w) (hc : ∀ w, Hp B E L w → Calls P f vs.toArray w fun r w' => r = .returned v ∧ Hp w [] [] w') :
    Soft P ops (Hp B E L) ⟨some d, .call ⟨.value (.func f), args, ats⟩, ty, pos, af, g⟩ v a :=
  .inl ⟨hw, fun w hp => by
    have hr : (execOp a.eval ⟨some d, .call ⟨.value (.func f), args, ats⟩, ty, pos, af, g⟩).run P w = .ok (.enter f vs.toArray) w := by
      simp only [execOp, resolve, Act.eval, Deferred.ofValue, invoke, Sem.run_bind, Sem.run_pure, Result.andThen_ok, hx a he]
      simp [hf]
    rw [hr]
    exact ⟨rfl, (hc w hp).mono fun _ _ ⟨h1, h2⟩ => ⟨h1, h2.ext0⟩⟩⟩
theorem TrP.call {f : FuncId} {args : Array Operand} {ats : Array TypeId} {vs : List Value} (ho : ops[i]? = some ⟨some d, .call ⟨.value (.func f), args, ats⟩, ty, pos, af, none⟩)
    (hx : ∀ a, EnvOK n e a → args.map a.eval = vs.toArray) (hf : ∀ xs w, (callFunc f xs).run P w = .ok (.enter f xs) w) (hd : Nat.blt d n = true) (hc : ∀ w, Hp B E L w → Calls P f vs.toArray w fun r w' => r = .returned v ∧ Hp w [] [] w')
    (h : TrP P ops Q n ((d, v) :: e) B E L T p) : TrP P ops Q n e B E L T (.soft i p) := fun a he =>
  ⟨_, v, ho, soft_call he (by simp [Region.wanted]) hx hf hc, Hp.closed, h _ (he.put hd v)⟩
theorem TrP.callG {b : Bool} {k : Nat} {f : FuncId} {args : Array Operand} {ats : Array TypeId} {vs : List Value} (ho : ops[i]? = some ⟨some d, .call ⟨.value (.func f), args, ats⟩, ty, pos, af, some (k, b)⟩) (hg : gv ops e k = some b)
    (hx : ∀ a, EnvOK n e a → args.map a.eval = vs.toArray) (hf : ∀ xs w, (callFunc f xs).run P w = .ok (.enter f xs) w) (hd : Nat.blt d n = true) (hc : ∀ w, Hp B E L w → Calls P f vs.toArray w fun r w' => r = .returned v ∧ Hp w [] [] w')
    (h : TrP P ops Q n ((d, v) :: e) B E L T p) : TrP P ops Q n e B E L T (.soft i p) := fun a he =>
  ⟨_, v, ho, soft_call he (by simp [Region.wanted, yielded_of_gv he hg]) hx hf hc, Hp.closed, h _ (he.put hd v)⟩
/-- The way on behind a hard operation. -/
abbrev pK (P : Program) (ops : Array Oper) (Q : Exit → Act → World → Prop) (T : List Nat) (i : Nat) (p : Plan) (B : World) (E : List Nat) (L : List Ent) : Act → World → Prop := hardK (wpPlan P ops Q T p) T i (Hp B E L)
theorem hard_op {a : Act} {w : World} {b : Bool} {k : Nat} (ho : ops[i]? = some ⟨dst, op, ty, pos, af, some (k, b)⟩) (hg : gv ops e k = some b) (h : WOp P n e B E L Q dst op ty K) (he : EnvOK n e a) (hw : Hp B E L w) : wpOp P ops Q i K a w := by
  unfold wpOp
  simp only [ho]
  rw [if_pos (by simp [Region.wanted, yielded_of_gv he hg])]
  exact .inl (h _ _ _ a w he hw)
theorem hard_op0 {a : Act} {w : World} (ho : ops[i]? = some ⟨dst, op, ty, pos, af, none⟩) (h : WOp P n e B E L Q dst op ty K) (he : EnvOK n e a) (hw : Hp B E L w) : wpOp P ops Q i K a w := by
  unfold wpOp
  simp only [ho]
  rw [if_pos (by simp [Region.wanted])]
  exact .inl (h _ _ _ a w he hw)
theorem TrP.hard (ho : ops[i]? = some ⟨dst, op, ty, pos, af, none⟩) (h : WOp P n e B E L Q dst op ty (pK P ops Q T i p B E L)) : TrP P ops Q n e B E L T (.hard i p) := fun _ he _ hw => hard_op0 ho h he hw
theorem TrP.hardG {b : Bool} {k : Nat} (ho : ops[i]? = some ⟨dst, op, ty, pos, af, some (k, b)⟩) (hg : gv ops e k = some b) (h : WOp P n e B E L Q dst op ty (pK P ops Q T i p B E L)) : TrP P ops Q n e B E L T (.hard i p) := fun _ he _ hw => hard_op ho hg h he hw
theorem TrP.skipH {b c : Bool} {k : Nat} (ho : ops[i]? = some ⟨some d, op, ty, pos, af, some (k, b)⟩) (hg : gv ops e k = some c) (hb : (c == b) = false) (hd : Nat.blt d n = true) (h : Tr n ((d, undef) :: e) B E L (pK P ops Q T i p B E L)) : TrP P ops Q n e B E L T (.hard i p) := fun a he w hw => by
  unfold wpOp
  simp only [ho]
  rw [if_neg (by simp only [Region.wanted, yielded_of_gv he hg]; simpa using hb)]
  exact h _ _ (he.put hd _) hw
theorem TrP.two {dst' : Option Tmp} {op' : Op} {ty' : TypeId} {pos' : String} {af' : Array Edge} (ho : ops[i]? = some ⟨dst, op, ty, pos, af, none⟩) (ho' : ops[j]? = some ⟨dst', op', ty', pos', af', none⟩) (h : WOp P n e B E L Q dst op ty (pK P ops Q T i p B E L))
    (h' : WOp P n e B E L Q dst' op' ty' (pK P ops Q T j q B E L)) : TrP P ops Q n e B E L T (.two i p j q) := fun _ he => ⟨fun _ hw => hard_op0 ho h he hw, fun _ hw => hard_op0 ho' h' he hw⟩
theorem TrP.twoG {b b' : Bool} {k k' : Nat} {dst' : Option Tmp} {op' : Op} {ty' : TypeId} {pos' : String} {af' : Array Edge} (ho : ops[i]? = some ⟨dst, op, ty, pos, af, some (k, b)⟩) (hg : gv ops e k = some b) (ho' : ops[j]? = some ⟨dst', op', ty', pos', af', some (k', b')⟩) (hg' : gv ops e k' = some b')
    (h : WOp P n e B E L Q dst op ty (pK P ops Q T i p B E L)) (h' : WOp P n e B E L Q dst' op' ty' (pK P ops Q T j q B E L)) : TrP P ops Q n e B E L T (.two i p j q) := fun _ he => ⟨fun _ hw => hard_op ho hg h he hw, fun _ hw => hard_op ho' hg' h' he hw⟩
theorem Tr.pOn (hs : L.Sublist L') (h : TrP P ops Q n e B E L' T p) : Tr n e B E L' (pK P ops Q T i p B E L) := fun a _ he hw => ⟨Hp B E L', hw, ⟨Hp.closed, fun _ _ hx => hx.sub hs⟩, h a he⟩
theorem Tr.pTail (hm : T.contains i = true) (h : TrP P ops Q n e B E L' T p) : Tr n e B E L' (pK P ops Q T i p B E L) := fun a _ he hw =>
  ⟨Hp B E L', hw, ⟨Hp.closed, fun hi => by rw [hm] at hi; cases hi⟩, h a he⟩
theorem TrP.done (h : Tr n e B E L (Q .normal)) : TrP P ops (NoPanic Q) n e B E L T .done := fun a he w hw => h a w he hw
end
theorem W.val {d : Nat} {op : Op} {ty : TypeId} {v : Value} (hv : VOp P n e B E L op ty v) (hd : Nat.blt d n = true) (h : Tr n ((d, v) :: e) B E L K) : WOp P n e B E L Q (some d) op ty K :=
  W.ok fun a w he hw => ⟨v, w, fun _ _ _ => hv a w _ _ _ _ he hw, h _ _ (he.put hd v) hw⟩

/-! ### Calls -/
theorem args0 : ∀ a, EnvOK n e a → (#[] : Array Operand).map a.eval = ([] : List Value).toArray := fun _ _ => by simp
theorem args1 {x : Operand} {v : Value} (h : ev e x = some v) : ∀ a, EnvOK n e a → #[x].map a.eval = [v].toArray := fun a he => by simp [he.eval h]
theorem args2 {x y : Operand} {v u : Value} (h : ev e x = some v) (h2 : ev e y = some u) : ∀ a, EnvOK n e a → #[x, y].map a.eval = [v, u].toArray := fun a he => by simp [he.eval h, he.eval h2]
theorem args3 {x y z : Operand} {v u t : Value} (h : ev e x = some v) (h2 : ev e y = some u) (h3 : ev e z = some t) : ∀ a, EnvOK n e a → #[x, y, z].map a.eval = [v, u, t].toArray := fun a he => by simp [he.eval h, he.eval h2, he.eval h3]
theorem args4 {x y z x4 : Operand} {v u t v4 : Value} (h : ev e x = some v) (h2 : ev e y = some u) (h3 : ev e z = some t) (h4 : ev e x4 = some v4) : ∀ a, EnvOK n e a → #[x, y, z, x4].map a.eval = [v, u, t, v4].toArray := fun a he => by simp [he.eval h, he.eval h2, he.eval h3, he.eval h4]
theorem args5 {x y z x4 x5 : Operand} {v u t v4 v5 : Value} (h : ev e x = some v) (h2 : ev e y = some u) (h3 : ev e z = some t) (h4 : ev e x4 = some v4) (h5 : ev e x5 = some v5) : ∀ a, EnvOK n e a → #[x, y, z, x4, x5].map a.eval = [v, u, t, v4, v5].toArray := fun a he => by simp [he.eval h, he.eval h2, he.eval h3, he.eval h4, he.eval h5]
theorem W.callQ {f : FuncId} {args : Array Operand} {ats : Array TypeId} {ty : TypeId} {d : Nat} {vs : List Value} (hx : ∀ a, EnvOK n e a → args.map a.eval = vs.toArray)
    (hf : ∀ xs w, (callFunc f xs).run P w = .ok (.enter f xs) w) (hd : Nat.blt d n = true)
    (h : ∀ w, Hp B E L w → Calls P f vs.toArray w fun r w' => ∃ v L', r = .returned v ∧ Hp B E L' w' ∧ Tr n ((d, v) :: e) B E L' K) : WOp P n e B E L Q (some d) (.call ⟨.value (.func f), args, ats⟩) ty K := fun pos af g a w he hw => by
  have hr : (execOp a.eval ⟨some d, .call ⟨.value (.func f), args, ats⟩, ty, pos, af, g⟩).run P w = .ok (.enter f vs.toArray) w := by
    simp only [execOp, resolve, Act.eval, Deferred.ofValue, invoke, Sem.run_bind, Sem.run_pure, Result.andThen_ok, hx a he]
    simp [hf]
  show Oper.upon P _ a K Q ((execOp a.eval ⟨some d, .call ⟨.value (.func f), args, ats⟩, ty, pos, af, g⟩).run P w)
  rw [hr]
  refine (h w hw).mono fun r w' hr => ?_
  obtain ⟨v, L', rfl, h1, h2⟩ := hr
  exact h2 _ _ (he.put hd v) h1
/-- A call whose callee turns no block that came in. -/
theorem W.call {f : FuncId} {args : Array Operand} {ats : Array TypeId} {ty : TypeId} {d : Nat} {vs : List Value} {ι : Type} {val : ι → Value} {N : ι → List Ent} {Px : ι → Prop} (hx : ∀ a, EnvOK n e a → args.map a.eval = vs.toArray)
    (hf : ∀ xs w, (callFunc f xs).run P w = .ok (.enter f xs) w) (hd : Nat.blt d n = true)
    (hc : ∀ w, Hp B E L w → Calls P f vs.toArray w fun r w' => ∃ x, r = .returned (val x) ∧ Hp w [] (N x) w' ∧ Px x)
    (h : ∀ x, Px x → Tr n ((d, val x) :: e) B E (N x ++ L) K) : WOp P n e B E L Q (some d) (.call ⟨.value (.func f), args, ats⟩) ty K :=
  W.callQ hx hf hd fun w hw => (hc w hw).mono fun _ _ ⟨x, h1, h2, h3⟩ => ⟨_, _, h1, hw.call h2, h x h3⟩
/-- A call of a function that only reckons: one value, no block. -/
theorem W.call1 {f : FuncId} {args : Array Operand} {ats : Array TypeId} {ty : TypeId} {d : Nat} {vs : List Value} {v : Value} (hx : ∀ a, EnvOK n e a → args.map a.eval = vs.toArray)
    (hf : ∀ xs w, (callFunc f xs).run P w = .ok (.enter f xs) w) (hd : Nat.blt d n = true)
    (hc : ∀ w, Hp B E L w → Calls P f vs.toArray w fun r w' => r = .returned v ∧ Hp w [] [] w')
    (h : Tr n ((d, v) :: e) B E L K) : WOp P n e B E L Q (some d) (.call ⟨.value (.func f), args, ats⟩) ty K :=
  W.callQ hx hf hd fun w hw => (hc w hw).mono fun _ _ ⟨h1, h2⟩ => ⟨_, _, h1, by simpa using hw.call h2, h⟩

/-! ### The way in, the way out -/
def argEnv : Nat → List Value → Env
  | _, [] => []
  | k, v :: r => (k, v) :: argEnv (k + 1) r
theorem lk_argEnv : ∀ (args : List Value) (k i : Nat) (v : Value), lk (argEnv k args) i = some v → k ≤ i ∧ args[i - k]? = some v
  | [], _, _, _, h => by cases h
  | u :: r, k, i, v, h => by
    simp only [argEnv, lk] at h
    split at h
    · rename_i hb
      obtain rfl : k = i := Nat.eq_of_beq_eq_true hb
      cases h
      simp
    · have := lk_argEnv r (k + 1) i v h
      refine ⟨by omega, ?_⟩
      have h1 : i - k = (i - (k + 1)) + 1 := by omega
      rw [h1, List.getElem?_cons_succ]
      exact this.2
theorem Tr.enter {f : FuncId} {fn : Func} {c : Code} {args : List Value} {w : World} {R : Ending → World → Prop} (hf : P.funcs[f]? = some fn) (hb : fn.body = some c) (hn : fn.ntmps = n) (hl : Nat.ble args.length n = true) (hw : Hp w E L w)
    (h : Tr n (argEnv 0 args) w E L (Code.wp P c (bodyPost P fn R))) : Calls P f args.toArray w R := by
  have hl' : args.length ≤ n := Nat.le_of_ble_eq_true hl
  refine calls_of_wp hf hb (h _ _ ⟨?_, rfl, fun i v hv => ?_⟩ hw)
  · simp [hn]; omega
  · have := (lk_argEnv args 0 i v hv).2
    simp only [Nat.sub_zero] at this
    have hlt := (List.getElem?_eq_some_iff.1 this).1
    show (args.toArray ++ Array.replicate _ undef)[i]? = some v
    rw [Array.getElem?_append_left (by simpa using hlt)]
    simpa using this
/-- What a result is. -/
def Res (P : Program) (n : Nat) (e : Env) (B : World) (E : List Nat) (L : List Ent) (rv : ResultVar) (v : Value) : Prop :=
  ∀ a w, EnvOK n e a → Hp B E L w → (match rv with | .tmp t => (pure (a.tmps.getD t undef) : Sem Value) | .cell p t => do loadVar t (← asAddr (a.tmps.getD p undef))).run P w = .ok v w
theorem Res.tmp {t : Nat} {v : Value} (h : lk e t = some v) : Res P n e B E L (.tmp t) v := fun a w he _ => by
  have := he.has t v h
  simp [this]
theorem Res.cell1 {p t g o : Nat} {v : Value} (h : lk e p = some (.pointer (some ⟨g, o, none⟩))) (ht : ∀ w, (isAgg t).run P w = .ok false w) (hc : ∀ w, Hp B E L w → w.cell? ⟨g, o, none⟩ = some v) : Res P n e B E L (.cell p t) v := fun a w he hw => by
  have := he.has p _ h
  simp [this, asAddr, loadVar, ht, hc w hw]
theorem Res.cellN {p t g : Nat} {tb : TypeId} {cs : List Value} (h : lk e p = some (.pointer (some ⟨g, 0, none⟩))) (ht : ∀ w, (isAgg t).run P w = .ok true w) (hs : ∀ w, (sizeOf t).run P w = .ok cs.length w) (hm : (⟨g, tb, cs⟩ : Ent) ∈ L) :
    Res P n e B E L (.cell p t) (.agg cs.toArray) := fun a w he hw => by
  have := he.has p _ h
  have hl := run_loadCells_list (P := P) w ⟨g, 0, none⟩ cs (V.cellsB hm w hw)
  simp [this, asAddr, loadVar, ht, hs, hl]
theorem body_res {fn : Func} {R : Ending → World → Prop} {v : Value} (hr : ∀ a w, EnvOK n e a → Hp B E L w → (results fn a.tmps).run P w = .ok v w) (hR : ∀ w, Hp B E L w → R (.returned v) w) : Tr n e B E L (bodyPost P fn R .ret) := fun a w he hw =>
  ⟨he.defers, v, hr a w he hw, hR w hw⟩
theorem Tr.out1 {fn : Func} {R : Ending → World → Prop} {r : ResultVar} {v : Value} (hf : fn.results = #[r]) (h : Res P n e B E L r v) (hR : ∀ w, Hp B E L w → R (.returned v) w) : Tr n e B E L (bodyPost P fn R .ret) :=
  body_res (fun a w he hw => by
    have h1 := h a w he hw
    cases r with
    | tmp t => simp only [Sem.run_pure, Result.ok.injEq, and_true] at h1; simp [results, hf, ← h1]
    | cell p t => simp only at h1; simp [results, hf] at h1 ⊢; rw [h1]) hR
theorem run_two {α β : Type} {x : Sem α} {f : α → Sem β} {w : World} {u : α} (h : x.run P w = .ok u w) : (x >>= f).run P w = (f u).run P w := by rw [Sem.run_bind, h]; rfl
theorem Tr.out2 {fn : Func} {R : Ending → World → Prop} {r s : ResultVar} {u v : Value} (hf : fn.results = #[r, s]) (h : Res P n e B E L r u) (h' : Res P n e B E L s v) (hR : ∀ w, Hp B E L w → R (.returned (.tuple #[u, v])) w) : Tr n e B E L (bodyPost P fn R .ret) :=
  body_res (fun a w he hw => by
    have h1 := h a w he hw
    have h2 := h' a w he hw
    unfold results
    rw [hf]
    simp only [List.mapM_toArray, List.mapM_cons, List.mapM_nil, bind_assoc, pure_bind, map_eq_pure_bind]
    rw [run_two (by cases r <;> exact h1), run_two (by cases s <;> exact h2)]
    simp) hR
theorem Tr.out0 {fn : Func} {R : Ending → World → Prop} (hf : fn.results = #[]) (hR : ∀ w, Hp B E L w → R (.returned (.tuple #[])) w) : Tr n e B E L (bodyPost P fn R .normal) := fun a w he hw =>
  ⟨he.defers, _, by simp [results, hf], hR w hw⟩
theorem Tr.out0R {fn : Func} {R : Ending → World → Prop} (hf : fn.results = #[]) (hR : ∀ w, Hp B E L w → R (.returned (.tuple #[])) w) : Tr n e B E L (bodyPost P fn R .ret) := fun a w he hw =>
  ⟨he.defers, _, by simp [results, hf], hR w hw⟩
end
end Go.Sym
