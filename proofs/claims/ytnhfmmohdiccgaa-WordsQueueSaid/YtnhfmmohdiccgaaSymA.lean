/-
  Regions that draw their order, walked once: a plan names the operations; the soft ones (one value in every world of a class; a call too, if it only makes memory besides) as early as they may come up, the hard ones where nothing else may come up but what the plan names; those of a list T may turn what the class tells, and every soft one stands ahead of them in every order.
-/
import Derived.OrdersHeld
import Derived.Deep.RegionHeld3
namespace Go.Sym
section
variable {P : Program} {ops : Array Oper} {Q : Exit → Act → World → Prop}

/-- Nothing that stood in w was turned. -/
structure Ext0 (w w' : World) : Prop where
  os : w'.os = w.os
  tape : w'.tape = w.tape
  output : w'.output = w.output
  size : w.heap.size ≤ w'.heap.size
  old : ∀ k, k < w.heap.size → w'.heap[k]? = w.heap[k]?
theorem Ext0.refl (w : World) : Ext0 w w := ⟨rfl, rfl, rfl, Nat.le_refl _, fun _ _ => rfl⟩

def Closed (S : World → Prop) : Prop := ∀ x y, S x → Ext0 x y → S y

/-- What an operation yields, from every world of the class. -/
def softUpon (P : Program) (w : World) (v : Value) : Result Next → Prop
  | .ok (.value u) w' => w' = w ∧ u = v
  | .ok (.enter f args) w' => w' = w ∧ Calls P f args w (fun e w'' => e = .returned v ∧ Ext0 w w'')
  | _ => False
def Soft (P : Program) (ops : Array Oper) (S : World → Prop) (o : Oper) (v : Value) (a : Act) : Prop :=
  (Region.wanted o (yielded ops a.tmps) = true ∧ ∀ w, S w → softUpon P w v ((execOp a.eval o).run P w)) ∨
  (Region.wanted o (yielded ops a.tmps) = false ∧ v = undef)

/-- Whatever order is picked from here on, from every world of the class; behind each operation that is not of T the class is a smaller one, and closed. -/
def wpAnyC (P : Program) (ops : Array Oper) (Q : Exit → Act → World → Prop) (T : List Nat) : Nat → (World → Prop) → Array Bool → Act → Prop
  | 0, S, listed, a => Region.ready .any ops listed = [] ∧ ∀ w, S w → Q .normal a w
  | fuel + 1, S, listed, a =>
    (Region.ready .any ops listed = [] → ∀ w, S w → Q .normal a w) ∧
    ∀ i ∈ Region.ready .any ops listed, ∀ w, S w → wpOp P ops Q i (fun a' w' => ∃ S' : World → Prop, S' w' ∧ (Closed S' ∧ (T.contains i = false → ∀ x, S' x → S x)) ∧ wpAnyC P ops Q T fuel S' (listed.setIfInBounds i true) a') a w

theorem wpAnyC_any {T : List Nat} : ∀ (fuel : Nat) (S : World → Prop) (listed : Array Bool) (a : Act) (w : World), S w → wpAnyC P ops Q T fuel S listed a → wpAny P .any ops Q fuel listed a w
  | 0, _, _, _, _, hS, h => ⟨h.1, h.2 _ hS⟩
  | fuel + 1, _, _, _, _, hS, h => ⟨fun h0 => h.1 h0 _ hS, fun i hi => wpOp_mono (fun a' w' ⟨S', h1, _, h3⟩ => wpAnyC_any fuel S' _ a' w' h1 h3) (h.2 i hi _ hS)⟩

/-- What is listed has what the table A says ahead of it listed, too. -/
def Shut (A : List Nat) (listed : Array Bool) : Prop := ∀ i k, listed.getD i false = true → (A.getD i 0).testBit k = true → listed.getD k false = true

/-- The table's own law: what stands ahead of j is one of its edges, or ahead of one. -/
def tableB (ops : Array Oper) (A : List Nat) : Bool :=
  (List.range ops.size).all fun j => (List.range ops.size).all fun k =>
    !(A.getD j 0).testBit k || ((ops[j]?).map fun o => o.after.any fun e => Region.binds .any e && (e.on == k || (A.getD e.on 0).testBit k)).getD false

theorem ahead_of_ready {A : List Nat} {listed : Array Bool} {j k : Nat} (hA : tableB ops A = true) (hs : Shut A listed) (hj : j ∈ Region.ready .any ops listed) (hk : k < ops.size)
    (hb : (A.getD j 0).testBit k = true) : listed.getD k false = true := by
  obtain ⟨_, o, ho, hall⟩ := mem_ready.1 hj
  have hjl : j < ops.size := (Array.getElem?_eq_some_iff.1 ho).1
  unfold tableB at hA
  rw [List.all_eq_true] at hA
  have h1 := hA j (List.mem_range.2 hjl)
  rw [List.all_eq_true] at h1
  have h2 := h1 k (List.mem_range.2 hk)
  rw [hb, ho] at h2
  simp only [Bool.not_true, Bool.false_or, Option.map_some, Option.getD_some] at h2
  rw [Array.any_eq_true'] at h2
  obtain ⟨e, he, h3⟩ := h2
  simp only [Bool.and_eq_true, Bool.or_eq_true, beq_iff_eq] at h3
  have h4 := hall e he h3.1
  rcases h3.2 with h5 | h5
  · rw [← h5]; exact h4
  · exact hs _ _ h4 h5

theorem Shut.step {A : List Nat} {listed : Array Bool} {j : Nat} (hA : tableB ops A = true) (hsz : ∀ i k, (A.getD i 0).testBit k = true → k < ops.size) (hs : Shut A listed)
    (hj : j ∈ Region.ready .any ops listed) : Shut A (listed.setIfInBounds j true) := by
  intro i k hi hb
  by_cases hij : j = i
  · subst hij
    exact getD_set_true (ahead_of_ready hA hs hj (hsz _ _ hb) hb)
  · rw [getD_set_ne false hij] at hi
    exact getD_set_true (hs i k hi hb)

theorem Soft.of_same {S : World → Prop} {o : Oper} {v : Value} {a a' : Act} (hy : Soft P ops S o v a) (he : execOp a'.eval o = execOp a.eval o)
    (hw : Region.wanted o (yielded ops a'.tmps) = Region.wanted o (yielded ops a.tmps)) : Soft P ops S o v a' := by
  unfold Soft at *
  rw [he, hw]
  exact hy
theorem Soft.sub {S S' : World → Prop} {o : Oper} {v : Value} {a : Act} (hy : Soft P ops S o v a) (hs : ∀ x, S' x → S x) : Soft P ops S' o v a :=
  hy.imp (fun ⟨h1, h2⟩ => ⟨h1, fun w hw => h2 w (hs w hw)⟩) id
theorem Soft.wpOp {i : Nat} {o : Oper} {v : Value} {a : Act} {S : World → Prop} (hi : ops[i]? = some o) (hy : Soft P ops S o v a) (hc : Closed S)
    {K : Act → World → Prop} {w : World} (hS : S w) (h : ∀ w', S w' → K (a.put o.dst v) w') : wpOp P ops Q i K a w := by
  unfold Go.wpOp
  simp only [hi]
  rcases hy with ⟨hw, hv⟩ | ⟨hw, rfl⟩
  · have h1 := hv w hS
    simp only [hw, if_true]
    refine .inl ?_
    unfold Oper.wp
    generalize (execOp a.eval o).run P w = r at *
    cases r with
    | ok n w' =>
      cases n <;> simp only [softUpon] at h1 <;> simp only [Oper.upon]
      case value u => obtain ⟨rfl, rfl⟩ := h1; exact h _ hS
      case enter f args =>
        obtain ⟨rfl, h2⟩ := h1
        exact h2.mono fun e w'' ⟨he, hx⟩ => by subst he; exact h _ (hc _ _ hS hx)
    | halt x w' => simp only [softUpon] at h1
  · simp only [hw, Bool.false_eq_true, if_false]; exact h _ hS

theorem wpOp_putC {j : Nat} {oi oj : Oper} {v : Value} {S : World → Prop} (hj : ops[j]? = some oj) (hap : oi.apart ops oj = true)
    (hsi : ∀ cs b, oi.op ≠ .select cs b) (hsj : ∀ cs b, oj.op ≠ .select cs b)
    (hQ : ∀ c a w, ¬ Q (.panic c) a w) {K : Act → World → Prop} {a : Act} {w : World}
    (hy : Soft P ops S oi v a) (h : wpOp P ops Q j K (a.put oi.dst v) w) :
    wpOp P ops Q j (fun a' w' => Soft P ops S oi v a' ∧ K (a'.put oi.dst v) w') a w := by
  obtain ⟨h1, h2, h3⟩ := Oper.apart_spec hap
  have keep : ∀ (a : Act), Soft P ops S oi v a → ∀ u, Soft P ops S oi v (a.put oj.dst u) := fun a hy u =>
    hy.of_same (execOp_put oi hsi a oj.dst u h3) (wanted_put oi a oj.dst u h3)
  have keepD : ∀ d, Soft P ops S oi v { a with defers := d :: a.defers } := fun d => hy.of_same rfl rfl
  unfold wpOp at *
  simp only [hj] at *
  rw [wanted_put oj a oi.dst v h1] at h
  split
  · rename_i hw
    simp only [hw, if_true] at h
    rcases h with h | ⟨hasks, hlets⟩
    case inr => exact .inr ⟨by unfold Oper.asks at *; rw [execOp_put oj hsj a oi.dst v h1] at hasks; exact hasks, hlets⟩
    refine .inl ?_
    unfold Oper.wp at *
    rw [execOp_put oj hsj a oi.dst v h1] at h
    generalize (execOp a.eval oj).run P w = r at *
    cases r with
    | ok n w' =>
      cases n <;> simp only [Oper.upon] at h ⊢
      case value u => exact ⟨keep a hy u, by rw [← Act.put_comm a v u h2]; exact h⟩
      case skip => exact ⟨keep a hy _, by rw [← Act.put_comm a v undef h2]; exact h⟩
      case defer d =>
        refine ⟨keep _ (keepD d) _, ?_⟩
        rw [← Act.put_comm _ v undef h2, ← Act.put_defers]
        exact h
      case enter f args =>
        refine Calls.mono h fun e w'' he => ?_
        cases e with
        | returned u => exact ⟨keep a hy u, by rw [← Act.put_comm a v u h2]; exact he⟩
        | panicked c => exact absurd he (hQ _ _ _)
        | outgrown => exact he
      case row row args => exact Rows.mono h fun u w'' he => ⟨keep a hy u, by rw [← Act.put_comm a v u h2]; exact he⟩
    | halt x w' =>
      cases x <;> simp only [Oper.upon] at h ⊢
      case panic u => exact absurd h (hQ _ _ _)
  · rename_i hw
    simp only [hw] at h
    exact ⟨keep a hy _, by rw [← Act.put_comm a v undef h2]; exact h⟩

theorem wpAnyC_first {A : List Nat} {T : List Nat} {i : Nat} {oi : Oper} {v : Value} (hi : ops[i]? = some oi) (hsel : ∀ (j : Nat) (o : Oper) cs b, ops[j]? = some o → o.op ≠ .select cs b)
    (hQ : ∀ c a w, ¬ Q (.panic c) a w) (hA : tableB ops A = true) (hsz : ∀ i k, (A.getD i 0).testBit k = true → k < ops.size)
    (hm : ∀ j ∈ T, (A.getD j 0).testBit i = true) :
    ∀ (fuel : Nat) (S : World → Prop) (listed : Array Bool) (a : Act), Shut A listed → Closed S →
      (∀ j oj, ops[j]? = some oj → j ≠ i → listed.getD j true = false → (∀ e ∈ oj.after, Region.binds .any e = true → e.on ≠ i) → oi.apart ops oj = true) →
      i ∈ Region.ready .any ops listed → Soft P ops S oi v a →
      wpAnyC P ops Q T fuel S (listed.setIfInBounds i true) (a.put oi.dst v) → wpAnyC P ops Q T (fuel + 1) S listed a := by
  intro fuel
  induction fuel with
  | zero =>
    intro S listed a _ hc _ hr hy H
    refine ⟨fun h => (by rw [h] at hr; cases hr), fun j hj w hS => ?_⟩
    by_cases hji : j = i
    · subst hji; exact hy.wpOp hi hc hS fun w' hS' => ⟨S, hS', ⟨hc, fun _ _ h => h⟩, H⟩
    · have := ready_mono hj hji
      rw [H.1] at this
      cases this
  | succ fuel ih =>
    intro S listed a hsh hc hfree hr hy H
    refine ⟨fun h => (by rw [h] at hr; cases hr), fun j hj w hS => ?_⟩
    by_cases hji : j = i
    · subst hji; exact hy.wpOp hi hc hS fun w' hS' => ⟨S, hS', ⟨hc, fun _ _ h => h⟩, H⟩
    · have h1 := H.2 j (ready_mono hj hji) w hS
      have hil : i < ops.size := (Array.getElem?_eq_some_iff.1 hi).1
      obtain ⟨hjun, oj, hoj, hall⟩ := mem_ready.1 hj
      have hiun : listed.getD i false = false := by
        have h0 := (mem_ready.1 hr).1
        rcases Nat.lt_or_ge i listed.size with h' | h'
        · simpa [h'] using h0
        · simp [Array.getElem?_eq_none h'] at h0
      have hjm : T.contains j = false := by
        cases hT : T.contains j with
        | false => rfl
        | true =>
          have := ahead_of_ready hA hsh hj hil (hm j (by simpa using hT))
          rw [hiun] at this
          cases this
      have hnot : ∀ e ∈ oj.after, Region.binds .any e = true → e.on ≠ i := fun e he hb heq => by
        have h1 := hall e he hb
        rw [heq, hiun] at h1
        cases h1
      have h2 := wpOp_putC hoj (hfree j oj hoj hji hjun hnot) (fun cs b => hsel i oi cs b hi) (fun cs b => hsel j oj cs b hoj) hQ hy h1
      have hfree' : ∀ k ok, ops[k]? = some ok → k ≠ i → (listed.setIfInBounds j true).getD k true = false →
          (∀ e ∈ ok.after, Region.binds .any e = true → e.on ≠ i) → oi.apart ops ok = true := fun k ok hk hki hun hno => by
        refine hfree k ok hk hki ?_ hno
        by_cases hjk : j = k
        · subst hjk; exact hjun
        · rw [getD_set_ne true hjk] at hun; exact hun
      refine wpOp_mono (fun a' w' h3 => ?_) h2
      obtain ⟨hy', S', hS', hcl, hK⟩ := h3
      have hsub := hcl.2 hjm
      refine ⟨S', hS', hcl, ih S' (listed.setIfInBounds j true) a' (hsh.step hA hsz hj) hcl.1 hfree' (ready_mono hr (Ne.symm hji)) (hy'.sub hsub) ?_⟩
      rw [Array.setIfInBounds_comm _ _ hji]
      exact hK

theorem wpAnyC_firstV {T : List Nat} {i : Nat} {oi : Oper} {v : Value} (hi : ops[i]? = some oi) (hsel : ∀ (j : Nat) (o : Oper) cs b, ops[j]? = some o → o.op ≠ .select cs b)
    (hQ : ∀ c a w, ¬ Q (.panic c) a w) :
    ∀ (fuel : Nat) (S : World → Prop) (listed : Array Bool) (a : Act), Closed S →
      (∀ j oj, ops[j]? = some oj → j ≠ i → listed.getD j true = false → (∀ e ∈ oj.after, Region.binds .any e = true → e.on ≠ i) → oi.apart ops oj = true) →
      i ∈ Region.ready .any ops listed → YieldsIf P ops (fun _ => True) oi v a →
      wpAnyC P ops Q T fuel S (listed.setIfInBounds i true) (a.put oi.dst v) → wpAnyC P ops Q T (fuel + 1) S listed a := by
  intro fuel
  induction fuel with
  | zero =>
    intro S listed a hc _ hr hy H
    refine ⟨fun h => (by rw [h] at hr; cases hr), fun j hj w hS => ?_⟩
    by_cases hji : j = i
    · subst hji; exact hy.wpOp hi trivial ⟨S, hS, ⟨hc, fun _ _ h => h⟩, H⟩
    · have := ready_mono hj hji
      rw [H.1] at this
      cases this
  | succ fuel ih =>
    intro S listed a hc hfree hr hy H
    refine ⟨fun h => (by rw [h] at hr; cases hr), fun j hj w hS => ?_⟩
    by_cases hji : j = i
    · subst hji; exact hy.wpOp hi trivial ⟨S, hS, ⟨hc, fun _ _ h => h⟩, H⟩
    · have h1 := H.2 j (ready_mono hj hji) w hS
      obtain ⟨hjun, oj, hoj, hall⟩ := mem_ready.1 hj
      have hiun : listed.getD i false = false := by
        have h0 := (mem_ready.1 hr).1
        rcases Nat.lt_or_ge i listed.size with h' | h'
        · simpa [h'] using h0
        · simp [Array.getElem?_eq_none h'] at h0
      have hnot : ∀ e ∈ oj.after, Region.binds .any e = true → e.on ≠ i := fun e he hb heq => by
        have h1 := hall e he hb
        rw [heq, hiun] at h1
        cases h1
      have h2 := wpOp_putIf hoj (hfree j oj hoj hji hjun hnot) (fun cs b => hsel i oi cs b hi) (fun cs b => hsel j oj cs b hoj) (fun c _ w h => absurd h (hQ c _ w)) hy h1
      have hfree' : ∀ k ok, ops[k]? = some ok → k ≠ i → (listed.setIfInBounds j true).getD k true = false →
          (∀ e ∈ ok.after, Region.binds .any e = true → e.on ≠ i) → oi.apart ops ok = true := fun k ok hk hki hun hno => by
        refine hfree k ok hk hki ?_ hno
        by_cases hjk : j = k
        · subst hjk; exact hjun
        · rw [getD_set_ne true hjk] at hun; exact hun
      refine wpOp_mono (fun a' w' h3 => ?_) h2
      obtain ⟨hy', S', hS', hcl, hK⟩ := h3
      refine ⟨S', hS', hcl, ih S' (listed.setIfInBounds j true) a' hcl.1 hfree' (ready_mono hr (Ne.symm hji)) hy' ?_⟩
      rw [Array.setIfInBounds_comm _ _ hji]
      exact hK

/-- What a plan does with the operations. -/
inductive Plan where
  | done
  | pure (i : Nat) (p : Plan)
  | soft (i : Nat) (p : Plan)
  | hard (i : Nat) (p : Plan)
  | two (i : Nat) (p : Plan) (j : Nat) (q : Plan)

def hardK (Q' : (World → Prop) → Act → Prop) (T : List Nat) (i : Nat) (S : World → Prop) : Act → World → Prop :=
  fun a' w' => ∃ S' : World → Prop, S' w' ∧ (Closed S' ∧ (T.contains i = false → ∀ x, S' x → S x)) ∧ Q' S' a'
/-- The walk over a plan. -/
def wpPlan (P : Program) (ops : Array Oper) (Q : Exit → Act → World → Prop) (T : List Nat) : Plan → (World → Prop) → Act → Prop
  | .done, S, a => ∀ w, S w → Q .normal a w
  | .pure i p, S, a => ∃ o v, ops[i]? = some o ∧ YieldsIf P ops (fun _ => True) o v a ∧ Closed S ∧ wpPlan P ops Q T p S (a.put o.dst v)
  | .soft i p, S, a => ∃ o v, ops[i]? = some o ∧ Soft P ops S o v a ∧ Closed S ∧ wpPlan P ops Q T p S (a.put o.dst v)
  | .hard i p, S, a => ∀ w, S w → wpOp P ops Q i (hardK (wpPlan P ops Q T p) T i S) a w
  | .two i p j q, S, a => (∀ w, S w → wpOp P ops Q i (hardK (wpPlan P ops Q T p) T i S) a w) ∧ (∀ w, S w → wpOp P ops Q j (hardK (wpPlan P ops Q T q) T j S) a w)

def planB (ops : Array Oper) (A T : List Nat) : Plan → Array Bool → Bool
  | .done, listed => (Region.ready .any ops listed).isEmpty
  | .pure i p, listed => (Region.ready .any ops listed).contains i && Region.free .any ops listed i && planB ops A T p (listed.setIfInBounds i true)
  | .soft i p, listed => (Region.ready .any ops listed).contains i && Region.free .any ops listed i && (T.all fun j => (A.getD j 0).testBit i) && planB ops A T p (listed.setIfInBounds i true)
  | .hard i p, listed => (Region.ready .any ops listed == [i]) && planB ops A T p (listed.setIfInBounds i true)
  | .two i p j q, listed => (Region.ready .any ops listed == [i, j]) && planB ops A T p (listed.setIfInBounds i true) && planB ops A T q (listed.setIfInBounds j true)

def regionB (ops : Array Oper) (A T : List Nat) (plan : Plan) : Bool :=
  Region.noSelect ops && tableB ops A && (A.all fun x => decide (x < 2 ^ ops.size)) && planB ops A T plan (Array.replicate ops.size false)

theorem bits_lt {A : List Nat} {n : Nat} (h : (A.all fun x => decide (x < 2 ^ n)) = true) (i k : Nat) (hb : (A.getD i 0).testBit k = true) : k < n := by
  rw [List.all_eq_true] at h
  have hx : A.getD i 0 < 2 ^ n := by
    rw [List.getD_eq_getElem?_getD]
    cases hi : A[i]? with
    | none => simp [Nat.two_pow_pos]
    | some x => simpa using h x (List.mem_of_getElem? hi)
  rcases Nat.lt_or_ge k n with h' | h'
  · exact h'
  · rw [Nat.testBit_lt_two_pow (Nat.lt_of_lt_of_le hx (Nat.pow_le_pow_right (by omega) h'))] at hb
    cases hb

theorem ready_fuel {listed : Array Bool} {fuel i : Nat} (h : (listed.toList.countP (· = false)) ≤ fuel) (hs : listed.size = ops.size) (hr : i ∈ Region.ready .any ops listed) : ∃ f, fuel = f + 1 ∧ ((listed.setIfInBounds i true).toList.countP (· = false)) ≤ f := by
  obtain ⟨h0, o, ho, _⟩ := mem_ready.1 hr
  have hil : i < listed.size := hs ▸ (Array.getElem?_eq_some_iff.1 ho).1
  have h1 : listed.toList[i]'(by simpa using hil) = false := by simpa [hil] using h0
  have h2 : (listed.setIfInBounds i true).toList.countP (· = false) + 1 = listed.toList.countP (· = false) := by
    rw [Array.toList_setIfInBounds]
    have := List.countP_set (p := fun b => decide (b = false)) (l := listed.toList) (i := i) (a := true) (by simpa using hil)
    have hpos : 0 < listed.toList.countP (fun b => decide (b = false)) := List.countP_pos_iff.2 ⟨_, List.getElem_mem (by simpa using hil), by simp [h1]⟩
    rw [this, if_pos (by rw [h1]; rfl), if_neg (by simp)]
    omega
  exact ⟨fuel - 1, by omega, by omega⟩

theorem wpAnyC_done {T : List Nat} {S : World → Prop} {listed : Array Bool} {a : Act} (hr : Region.ready .any ops listed = []) (h : ∀ w, S w → Q .normal a w) : ∀ fuel, wpAnyC P ops Q T fuel S listed a
  | 0 => ⟨hr, h⟩
  | _ + 1 => ⟨fun _ => h, by rw [hr]; simp⟩

theorem wpAnyC_plan {A T : List Nat} (hsel : Region.noSelect ops = true) (hQ : ∀ c a w, ¬ Q (.panic c) a w) (hA : tableB ops A = true) (hsz : ∀ i k, (A.getD i 0).testBit k = true → k < ops.size)
    (plan : Plan) :
    ∀ (fuel : Nat) (listed : Array Bool) (S : World → Prop) (a : Act), listed.size = ops.size → (listed.toList.countP (· = false)) ≤ fuel → Shut A listed →
      planB ops A T plan listed = true → wpPlan P ops Q T plan S a → wpAnyC P ops Q T fuel S listed a := by
  induction plan with
  | done => exact fun fuel listed S a _ _ _ hB h => wpAnyC_done (by simpa [planB] using hB) h fuel
  | pure i p ih =>
    intro fuel listed S a hs hf hsh hB h
    simp only [planB, Bool.and_eq_true] at hB
    obtain ⟨⟨hr, hfr⟩, hB⟩ := hB
    obtain ⟨o, v, ho, hy, hS, hK⟩ := h
    have hr' : i ∈ Region.ready .any ops listed := by simpa using hr
    obtain ⟨f, rfl, hf'⟩ := ready_fuel hf hs hr'
    exact wpAnyC_firstV ho (Region.noSelect_spec hsel) hQ f S listed a hS (Region.free_spec ho hfr) hr' hy
      (ih f _ S _ (by simpa using hs) hf' (hsh.step hA hsz hr') hB hK)
  | soft i p ih =>
    intro fuel listed S a hs hf hsh hB h
    simp only [planB, Bool.and_eq_true] at hB
    obtain ⟨⟨⟨hr, hfr⟩, him⟩, hB⟩ := hB
    rw [List.all_eq_true] at him
    obtain ⟨o, v, ho, hy, hS, hK⟩ := h
    have hr' : i ∈ Region.ready .any ops listed := by simpa using hr
    obtain ⟨f, rfl, hf'⟩ := ready_fuel hf hs hr'
    exact wpAnyC_first ho (Region.noSelect_spec hsel) hQ hA hsz him f S listed a hsh hS (Region.free_spec ho hfr) hr' hy
      (ih f _ S _ (by simpa using hs) hf' (hsh.step hA hsz hr') hB hK)
  | hard i p ih =>
    intro fuel listed S a hs hf hsh hB h
    simp only [planB, Bool.and_eq_true, beq_iff_eq] at hB
    obtain ⟨hr, hB⟩ := hB
    have hr' : i ∈ Region.ready .any ops listed := by rw [hr]; simp
    obtain ⟨f, rfl, hf'⟩ := ready_fuel hf hs hr'
    refine ⟨fun h0 => (by rw [h0] at hr; cases hr), fun j hj w hS => ?_⟩
    rw [hr] at hj
    obtain rfl : j = i := by simpa using hj
    refine wpOp_mono (fun a' w' h' => ?_) (h w hS)
    obtain ⟨S', h1, h2, hK⟩ := h'
    exact ⟨S', h1, h2, ih f _ S' a' (by simpa using hs) hf' (hsh.step hA hsz hr') hB hK⟩
  | two i p j q ih ih' =>
    intro fuel listed S a hs hf hsh hB h
    simp only [planB, Bool.and_eq_true, beq_iff_eq] at hB
    obtain ⟨⟨hr, hB⟩, hB'⟩ := hB
    have hr1 : i ∈ Region.ready .any ops listed := by rw [hr]; simp
    have hr2 : j ∈ Region.ready .any ops listed := by rw [hr]; simp
    obtain ⟨f, rfl, hf1⟩ := ready_fuel hf hs hr1
    obtain ⟨f', hff, hf2⟩ := ready_fuel hf hs hr2
    obtain rfl : f = f' := by omega
    refine ⟨fun h0 => (by rw [h0] at hr; cases hr), fun k hk w hS => ?_⟩
    rw [hr] at hk
    have hk' : k = i ∨ k = j := by simpa using hk
    rcases hk' with rfl | rfl
    · refine wpOp_mono (fun a' w' h' => ?_) (h.1 w hS)
      obtain ⟨S', h1, h2, hK⟩ := h'
      exact ⟨S', h1, h2, ih f _ S' a' (by simpa using hs) hf1 (hsh.step hA hsz hr1) hB hK⟩
    · refine wpOp_mono (fun a' w' h' => ?_) (h.2 w hS)
      obtain ⟨S', h1, h2, hK⟩ := h'
      exact ⟨S', h1, h2, ih' f _ S' a' (by simpa using hs) hf2 (hsh.step hA hsz hr2) hB' hK⟩

/-- **A region that draws its order, by a plan.** -/
theorem wp_region_plan {id : Nat} {l : List Oper} {a : Act} {w : World} (A T : List Nat) (plan : Plan) (hm : P.follows .mixedOrders = true) (hB : regionB l.toArray A T plan = true)
    (S : World → Prop) (hS : S { w with drawn := w.drawn + 1 }) (h : wpPlan P l.toArray (NoPanic Q) T plan S a) : (Code.region id l.toArray true).wp P Q a w := by
  refine wp_region_noPanic (wp_region_any hm (wpAnyC_any _ S _ _ _ (T := T) hS ?_))
  simp only [regionB, Bool.and_eq_true] at hB
  obtain ⟨⟨⟨h1, h2⟩, h3⟩, h5⟩ := hB
  refine wpAnyC_plan (A := A) h1 (fun c a w h => h) h2 (bits_lt h3) plan _ _ S a (by simp) (Nat.le_trans List.countP_le_length (by simp)) ?_ h5 h
  intro i k hi
  simp only [Array.getD_eq_getD_getElem?, Array.getElem?_replicate] at hi
  split at hi <;> simp at hi
end
end Go.Sym
