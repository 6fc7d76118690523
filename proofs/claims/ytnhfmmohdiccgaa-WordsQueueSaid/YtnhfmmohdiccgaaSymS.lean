/-
  Rules of the walk, on: a range over a function, whole; what is walked behind it; a slice that moves on within its block.
-/
import Derived.Test.YtnhfmmohdiccgaaSymR
namespace Go.Sym
/-! ### A slice that is nil, or lies somewhere in its own block -/
/-- None: nil; some: its block, where it begins, its capacity, what lies ahead, what lies behind. -/
abbrev ORow := Option (Nat × Nat × Nat × List Value × List Value)
def ORow.val : ORow → Nat → Value
  | none, _ => .slice none 0 0
  | some (g, o, c, _, _), m => .slice (some ⟨g, o, none⟩) m c
def ORow.blk (el : TypeId) : ORow → List Value → List Ent
  | none, _ => []
  | some (g, _, _, pre, junk), xs => [⟨g, el, pre ++ xs ++ junk⟩]
def ORow.ok : ORow → List Value → Prop
  | none, xs => xs = []
  | some (_, o, c, pre, junk), xs => pre.length = o ∧ xs.length ≤ c ∧ c ≤ (xs ++ junk).length
def ORow.tail : ORow → Value → ORow
  | none, _ => none
  | some (g, o, c, pre, junk), v => if c = 1 then some (g, o, 0, pre, v :: junk) else some (g, o + 1, c - 1, pre ++ [v], junk)
theorem ORow.tail_blk (el : TypeId) (o : ORow) (v : Value) (xs : List Value) (hok : o.ok (v :: xs)) : (o.tail v).blk el xs = o.blk el (v :: xs) := by
  match o, hok with
  | none, hok => exact absurd hok (by simp [ORow.ok])
  | some (g, o, c, pre, junk), hok =>
    obtain ⟨h1, h2, h3⟩ := hok
    by_cases hc : c = 1
    · subst hc
      obtain rfl : xs = [] := List.eq_nil_of_length_eq_zero (by simpa using h2)
      simp [ORow.tail, ORow.blk]
    · simp [ORow.tail, ORow.blk, hc]
theorem ORow.tail_ok (o : ORow) (v : Value) (xs : List Value) (hok : o.ok (v :: xs)) : (o.tail v).ok xs := by
  match o, hok with
  | none, hok => exact absurd hok (by simp [ORow.ok])
  | some (g, o, c, pre, junk), hok =>
    obtain ⟨h1, h2, h3⟩ := hok
    by_cases hc : c = 1
    · subst hc
      obtain rfl : xs = [] := List.eq_nil_of_length_eq_zero (by simpa using h2)
      simp [ORow.tail, ORow.ok, h1]
    · simp only [ORow.tail, if_neg hc, ORow.ok]
      simp only [List.length_cons, List.length_append, List.length_nil] at h2 h3 ⊢
      exact ⟨by omega, by omega, by omega⟩
theorem ORow.slice (o : ORow) (xs : List Value) (hok : o.ok xs) : ∃ p c, o.val xs.length = .slice p xs.length c ∧ xs.length ≤ c ∧ (0 < xs.length → p.isSome = true) ∧
    (∀ {B : World} {E : List Nat} {L : List Ent} (el : TypeId), (∀ y ∈ o.blk el xs, y ∈ L) → RdP B E L p xs) ∧ (∀ v r, xs = v :: r → (o.tail v).val r.length = .slice (if c = 1 then p else p.map (·.add 1)) (xs.length - 1) (c - 1)) := by
  match o, hok with
  | none, hok =>
    obtain rfl : xs = [] := hok
    exact ⟨none, 0, rfl, Nat.le_refl _, (fun h => by simp at h), fun _ _ => RdP.nil, fun v r h => by cases h⟩
  | some (g, o, c, pre, junk), hok =>
    obtain ⟨h1, h2, h3⟩ := hok
    refine ⟨some ⟨g, o, none⟩, c, rfl, h2, fun _ => rfl, fun {B E L} el hm => ?_, fun v r h => ?_⟩
    · have h := RdP.blk (B := B) (E := E) (hm _ (.head _)) o xs.length
      rwa [List.append_assoc, List.drop_left' h1, List.take_left] at h
    · subst h
      by_cases hc : c = 1
      · subst hc
        obtain rfl : r = [] := List.eq_nil_of_length_eq_zero (by simpa using h2)
        simp [ORow.tail, ORow.val]
      · simp [ORow.tail, ORow.val, hc, Addr.add]
theorem Row.slice (o : Row) (xs : List Value) (hok : o.ok xs) : ∃ p c, o.val xs.length = .slice p xs.length c ∧ xs.length ≤ c ∧ (0 < xs.length → p.isSome = true) ∧
    (∀ {B : World} {E : List Nat} {L : List Ent} (el : TypeId), (∀ y ∈ o.blk el xs, y ∈ L) → RdP B E L p xs) := by
  match o, hok with
  | none, hok =>
    obtain rfl : xs = [] := hok
    exact ⟨none, 0, rfl, Nat.le_refl _, (fun h => by simp at h), fun _ _ => RdP.nil⟩
  | some (g, c, junk), hok =>
    have hok' : (xs ++ junk).length = c := hok
    exact ⟨some ⟨g, 0, none⟩, c, rfl, by rw [← hok', List.length_append]; omega, fun _ => rfl, fun {B E L} el hm => RdP.headL (hm _ (.head _))⟩
theorem ORow.cells (o : ORow) (m : Nat) : (o.val m).cells = #[o.val m] := by
  cases o <;> rfl
theorem ORow.one (o : ORow) (m : Nat) : (o.val m).oneCell' = true := by
  cases o <;> rfl
theorem prefix_snoc {α : Type} [DecidableEq α] {pre xs : List α} {x : α} (h : pre <+: xs) : (pre ++ [x]) <+: xs ↔ xs[pre.length]? = some x := by
  obtain ⟨t, rfl⟩ := h
  rw [List.prefix_append_right_inj, List.getElem?_append_right (Nat.le_refl _), Nat.sub_self]
  cases t with
  | nil => simp
  | cons y t => simp [eq_comm]
theorem Upd.app {x y : Ent} {L L' : List Ent} (l : List Ent) (h : Upd x y L L') : Upd x y (l ++ L) (l ++ L') := by
  induction l with
  | nil => exact h
  | cons a l ih => exact .tail ih
theorem perm_mid (a x : Ent) (l r : List Ent) : (a :: x :: (l ++ r)).Perm (x :: l ++ a :: r) := (List.perm_middle (l₁ := x :: l) (a := a) (l₂ := r)).symm
theorem perm_one (a x : Ent) (r : List Ent) : ([x] ++ a :: r).Perm (a :: x :: r) := List.Perm.swap _ _ _
theorem perm_own (a b c : Ent) (l o r : List Ent) : (a :: b :: c :: (l ++ (o ++ r))).Perm (o ++ (a :: b :: c :: (l ++ r))) := List.perm_append_comm_assoc (a :: b :: c :: l) o r
theorem Tr.permS {n : Nat} {e : Env} {B : World} {E : List Nat} {L L' : List Ent} {G : Act → World → Prop} (hp : L.Perm L') (h : Tr n e B E L' G) : Tr n e B E L G := fun a w he hw => h a w he (hw.perm hp)
section
variable {P : Program} {F : Fence} {m n : Nat} {e : Env} {B : World} {E : List Nat} {L L' : List Ent} {ops : Array Oper} {Q : Exit → Act → World → Prop} {rest : List Oper} {K : Act → World → Prop}
theorem W.appendOR {sT el : TypeId} {z : Value} {bytes : Nat} (T : ElemT P sT el z bytes) {ty : TypeId} {s x : Operand} {d k c2 : Nat} {p : Option Addr} {v : Value} {xs : List Value} {o : ORow} {R : List Ent}
    (hs : ev e s = some (o.val k)) (hx : ev e x = some (.slice p 1 c2)) (hr : RdP B E L p [v]) (hv : v.oneCell' = true) (hok : o.ok xs) (hm : xs.length = k) (hL : L.Perm (o.blk el xs ++ R)) (hb : (k + 1) * bytes ≤ 140737488355328) (h63 : k + 1 ≤ 9223372036854775807) (hd : Nat.blt d n = true)
    (h : ∀ o' : ORow, o'.ok (xs ++ [v]) → Tr n ((d, o'.val (k + 1)) :: e) B E (o'.blk el (xs ++ [v]) ++ R) K) :
    WOp P n e B E L Q (some d) (.call ⟨.builtin .append, #[s, x], #[sT, sT]⟩) ty K := by
  have hr' : RdP B E (o.blk el xs ++ R) p [v] := fun w hw => hr w (hw.perm hL.symm)
  have key : WOp P n e B E (o.blk el xs ++ R) Q (some d) (.call ⟨.builtin .append, #[s, x], #[sT, sT]⟩) ty K := by
    match o, hs, hok, hr' with
    | none, hs, hok, hr' =>
      obtain rfl : xs = [] := hok
      obtain rfl : k = 0 := by simpa using hm.symm
      refine W.appendNil T hs hx hr' rfl (by decide) (by simpa using hb) (by omega) hd fun g c junk hc => ?_
      have := h (some (g, 0, c, [], junk)) ⟨rfl, by rw [← hc]; simp, by rw [← hc]; simp⟩
      simpa [ORow.val, ORow.blk] using this
    | some (g, o, c, pre, junk), hs, hok, hr' =>
      obtain ⟨h1, h2, h3⟩ := hok
      refine W.appendAt (L' := fun y => y :: R) T hs hx hr' rfl (by decide) (by simpa using hv) (fun y => .head) h1 hm h3 hb h63 hd fun g' o' c' pre' junk' e1 e2 e3 => ?_
      have := h (some (g', o', c', pre', junk')) ⟨e1, by simp; omega, e3⟩
      simpa [ORow.val, ORow.blk] using this
  exact fun pos af g a w he hw => key pos af g a w he (hw.perm hL)
theorem V.eqlFunc {t yt ty : TypeId} {x y : Operand} {f : Fn} {bs cs : Array Value} {ps rs : Array TypeId} {vr : Bool} (ht : ∀ w, (underlying t).run P w = .ok (.func ps rs vr) w) (hx : ev e x = some (.func f bs cs)) (hy : ev e y = some .nilFunc) :
    VOp P n e B E L (.binOp .eql t x y yt) ty (.bool false) := fun a w _ _ _ _ he _ => by
  have h1 : ∀ d, (Op.equalIn (d + 1) t (.func f bs cs) .nilFunc).run P w = .ok false w := fun d => by
    unfold Op.equalIn
    simp [ht]
  have h2 : (binOp .eql t (.func f bs cs) .nilFunc).run P w = .ok (.bool false) w := by
    show ((do pure (Value.bool (← Op.equalIn (9999 + 1) t (.func f bs cs) .nilFunc))) : Sem Value).run P w = _
    simp only [Sem.run_bind, Sem.run_pure, h1, Result.andThen_ok]
  have h3 : (eqGuard .eql t x y (.func f bs cs) .nilFunc).run P w = .ok () w := by simp [eqGuard]
  simp only [execOp, he.eval hx, he.eval hy, Sem.run_bind, Sem.run_pure, h2, h3, Result.andThen_ok]
theorem V.neqBb {t yt ty : TypeId} {x y : Operand} {i j b : Bool} (ht : ∀ w, (underlying t).run P w = .ok .bool w) (hx : ev e x = some (.bool i)) (hy : ev e y = some (.bool j)) (hb : (!(i == j)) = b) :
    VOp P n e B E L (.binOp .neq t x y yt) ty (.bool b) := fun a w _ _ _ _ he _ => by
  have h1 : ∀ d, (Op.equalIn (d + 1) t (.bool i) (.bool j)).run P w = .ok (i == j) w := fun d => by
    unfold Op.equalIn
    simp [ht]
  have h2 : (binOp .neq t (.bool i) (.bool j)).run P w = .ok (.bool b) w := by
    show ((do pure (Value.bool (!(← Op.equalIn (9999 + 1) t (.bool i) (.bool j))))) : Sem Value).run P w = _
    simp only [Sem.run_bind, Sem.run_pure, h1, Result.andThen_ok, hb]
  have h3 : (eqGuard .neq t x y (.bool i) (.bool j)).run P w = .ok () w := by simp [eqGuard]
  simp only [execOp, he.eval hx, he.eval hy, Sem.run_bind, Sem.run_pure, h2, h3, Result.andThen_ok]
/-! ### Behind a range over a function: a mark among the deferred calls -/
def TrM (ds : List Deferred) (n : Nat) (e : Env) (B : World) (E : List Nat) (L : List Ent) (G : Act → World → Prop) : Prop := ∀ a w, EnvOK n e { a with defers := [] } → a.defers = ds → Hp B E L w → G a w
variable {ds : List Deferred}
theorem eval_bare (a : Act) : Act.eval { a with defers := [] } = Act.eval a := by
  funext x
  cases x <;> rfl
theorem put_bare (a : Act) (d : Option Tmp) (v : Value) : ({ a.put d v with defers := [] } : Act) = ({ a with defers := [] } : Act).put d v := by
  cases d <;> rfl
theorem TrM.val {op : Op} {ty : TypeId} {d : Nat} {pos : String} {af : Array Edge} {v : Value} (hv : VOp P n e B E L op ty v) (hd : Nat.blt d n = true) (h : TrM ds n ((d, v) :: e) B E L (wpList P ops Q rest)) :
    TrM ds n e B E L (wpList P ops Q (⟨some d, op, ty, pos, af, none⟩ :: rest)) := fun a w he ha hw => by
  refine wpList_plain rfl fun K hK => ?_
  unfold Oper.wp
  have h1 := hv { a with defers := [] } w (some d) pos af none he hw
  rw [eval_bare] at h1
  rw [h1]
  exact hK _ _ (h _ _ (by rw [put_bare]; exact he.put hd v) ha hw)
theorem TrM.valG {op : Op} {ty : TypeId} {d : Nat} {pos : String} {af : Array Edge} {v : Value} {j : Nat} {b : Bool} (hg : gv ops e j = some b) (hv : VOp P n e B E L op ty v) (hd : Nat.blt d n = true)
    (h : TrM ds n ((d, v) :: e) B E L (wpList P ops Q rest)) : TrM ds n e B E L (wpList P ops Q (⟨some d, op, ty, pos, af, some (j, b)⟩ :: rest)) := fun a w he ha hw => by
  refine wpList_step fun K hK => ?_
  rw [if_pos (by have := yielded_of_gv he hg; simp at this; simp [Region.wanted, this])]
  unfold Oper.wp
  have h1 := hv { a with defers := [] } w (some d) pos af (some (j, b)) he hw
  rw [eval_bare] at h1
  rw [h1]
  exact hK _ _ (h _ _ (by rw [put_bare]; exact he.put hd v) ha hw)
theorem TrM.skip {op : Op} {ty : TypeId} {pos : String} {af : Array Edge} (h1 : ∀ a w, EnvOK n e a → Hp B E L w → ∃ w', (∀ pos af g, (execOp a.eval ⟨none, op, ty, pos, af, g⟩).run P w = .ok .skip w') ∧ Hp B E L' w') (h : TrM ds n e B E L' (wpList P ops Q rest)) :
    TrM ds n e B E L (wpList P ops Q (⟨none, op, ty, pos, af, none⟩ :: rest)) := fun a w he ha hw => by
  refine wpList_plain rfl fun K hK => ?_
  unfold Oper.wp
  obtain ⟨w', h2, h3⟩ := h1 _ w he hw
  have h4 := h2 pos af none
  rw [eval_bare] at h4
  rw [h4]
  exact hK _ _ (h _ _ he ha h3)
theorem TrM.lNil (h : TrM ds n e B E L (Q .normal)) : TrM ds n e B E L (wpList P ops Q []) := fun a w he ha hw => wpList_nil (h a w he ha hw)
theorem TrM.region {id : Nat} {l : List Oper} (h : TrM ds n e B E L (wpList P l.toArray Q l)) : TrM ds n e B E L (Code.wp P (.region id l.toArray false) Q) := fun a w he ha hw => wp_region_lit (h a w he ha hw)
theorem TrM.seq {x y : Code} (h : TrM ds n e B E L (Code.wp P x (Exit.then (Code.wp P y Q) Q))) : TrM ds n e B E L (Code.wp P (.seq x y) Q) := fun a w he ha hw => wp_seq (h a w he ha hw)
theorem EnvOK.zip1 {a : Act} {d : Nat} (h : EnvOK n e a) (hd : Nat.blt d n = true) (v : Value) : EnvOK n ((d, v) :: e) { tmps := ((#[d] : Array Tmp).zip #[v]).foldl (fun t (p, v) => t.setIfInBounds p v) a.tmps, defers := [] } := by
  have h1 := h.put hd v
  have h2 : ((#[d] : Array Tmp).zip #[v]).foldl (fun t (p, v) => t.setIfInBounds p v) a.tmps = (a.put (some d) v).tmps := by simp [Act.put]
  rw [h2]
  exact ⟨h1.size, rfl, h1.has⟩
/-- A walk from a world that was walked to. -/
theorem Hp.join {W W' : World} (h1 : Hp B E L W) (h2 : Hp W (L.map (·.g)) L' W') (hg : L'.map (·.g) = L.map (·.g)) : Hp B E L' W' := by
  have hloc : ∀ k ∈ L.map (·.g), k ∈ E ∨ B.heap.size ≤ k := fun k hk => by
    obtain ⟨y, hy, rfl⟩ := List.mem_map.1 hk
    exact (h1.blk y hy).2
  refine ⟨h2.os.trans h1.os, h2.tape.trans h1.tape, h2.output.trans h1.output, Nat.le_trans h1.size h2.size, fun k hk hE => ?_, fun y hy => ⟨(h2.blk y hy).1, ?_⟩, h2.apart⟩
  · rw [h2.old k (Nat.lt_of_lt_of_le hk h1.size) (fun hm => ?_)]
    · exact h1.old k hk hE
    · rcases hloc k hm with h | h
      · exact hE h
      · omega
  · refine hloc _ ?_
    rw [← hg]
    exact List.mem_map_of_mem hy
theorem TrM.thenN {K : Act → World → Prop} (h : TrM ds n e B E L K) : TrM ds n e B E L (Exit.then K Q .normal) := fun a w he ha hw => h a w he ha hw
theorem TrM.inN {id : Nat} (h : TrM ds n e B E L (Q .normal)) : TrM ds n e B E L (Exit.inBlock id Q .normal) := fun a w he ha hw => h a w he ha hw
theorem TrM.store1 {t ty tb : TypeId} {x y : Operand} {g o : Nat} {v : Value} {cs : List Value} {pos : String} {af : Array Edge} (hs : ∀ w, (sizeOf t).run P w = .ok 1 w) (hx : ev e x = some (.pointer (some ⟨g, o, none⟩))) (hy : ev e y = some v)
    (hc : v.cells = #[v]) (h1 : v.oneCell' = true) (hu : Upd ⟨g, tb, cs⟩ ⟨g, tb, cs.set o v⟩ L L') (hf : o < cs.length) (h : TrM ds n e B E L' (wpList P ops Q rest)) : TrM ds n e B E L (wpList P ops Q (⟨none, .store t x y, ty, pos, af, none⟩ :: rest)) := fun a w he ha hw => by
  refine wpList_plain rfl fun K hK => ?_
  have h2 : Oper.wp P ⟨none, .store t x y, ty, pos, af, none⟩ { a with defers := [] } w (fun a' w' => EnvOK n e a' ∧ Hp B E L' w') (fun _ _ _ => False) :=
    (W.store1 (Q := fun _ _ _ => False) hs hx hy hc h1 hu hf (fun a' w' he' hw' => ⟨he', hw'⟩) : WOp P n e B E L (fun _ _ _ => False) none (.store t x y) ty _) pos af none _ w he hw
  unfold Oper.wp at h2 ⊢
  rw [eval_bare] at h2
  generalize (execOp a.eval ⟨none, .store t x y, ty, pos, af, none⟩).run P w = r at *
  cases r with
  | ok z w' =>
    cases z with
    | value u => exact hK _ _ (h _ _ (by rw [put_bare]; exact h2.1) ha h2.2)
    | skip => exact hK _ _ (h _ _ (by rw [put_bare]; exact h2.1) ha h2.2)
    | defer d => exact absurd h2.1.defers (by simp [Act.put])
    | enter f args =>
      refine Calls.mono h2 fun r w' hr => ?_
      cases r with
      | returned u => exact hK _ _ (h _ _ (by rw [put_bare]; exact hr.1) ha hr.2)
      | panicked ch => exact hr.elim
      | outgrown => obtain ⟨_, _, h3⟩ := hr; exact h3.elim
    | row row args => exact Rows.mono h2 fun u w' hr => hK _ _ (h _ _ (by rw [put_bare]; exact hr.1) ha hr.2)
    | _ => exact h2.elim
  | halt z w' =>
    cases z with
    | panic v => exact h2.elim
    | _ => exact h2.elim
/-- The way out, over a mark. -/
theorem TrM.out1 {fn : Func} {R : Ending → World → Prop} {v : Value} {D : Nat} {W : World} {k p t g o : Nat} (hf : fn.results = #[.cell p t]) (hp : lk e p = some (.pointer (some ⟨g, o, none⟩))) (ht : ∀ w, (isAgg t).run P w = .ok false w)
    (hD : W.heap[D]? = some (.deferred (some []))) (hDE : D ∉ E) (hR : ∀ w, Hp W E L w → (w.putObj D (.deferred none)).cell? ⟨g, o, none⟩ = some v ∧ R (.returned v) (w.putObj D (.deferred none))) :
    TrM [{ target := .collected D, args := #[] }] n e W E L (bodyPostM Fence.wide k P fn R .ret) := fun a w he ha hw => by
  show LeavesInM Fence.wide k P fn a.tmps R a.defers .returning w
  rw [ha]
  have hK : w.heap[D]? = some (.deferred (some [])) := (hw.old D (Array.getElem?_eq_some_iff.1 hD).1 hDE).trans hD
  obtain ⟨h1, h2⟩ := hR w hw
  have h3 : (results fn a.tmps).run P (w.putObj D (.deferred none)) = .ok v (w.putObj D (.deferred none)) := by
    have := he.has p _ hp
    simp only at this
    simp [results, hf, this, asAddr, loadVar, ht, h1]
  exact ⟨by simp, .inl ⟨D, _, rfl, run_takeDeferred hK, v, h3, h2⟩⟩
/-- A range over a function: the blocks told hang on what has come. -/
theorem Tr.rangeF {α : Type} {g : Operand} {ps : Array Tmp} {assign body : Code} {gf : Nat} {lb : Array Value} {encs : α → Array Value} {N : Nat} {xs : List α} (blk : List α → List Ent) (Lq : List Ent) (envA envB : α → Env)
    (hg : ev e g = some (.func (.func gf) #[] lb)) (eg : ∀ args w, (callFunc gf args).run P w = .ok (.enter gf args) w) (hps : ∀ x, (encs x).size = ps.size)
    (hseq : ∀ w, Hp B E (blk []) w → SeqStopsK Fence.wide 2 P gf lb encs (KeepL Lq) (fun ys => ys = xs) (fun pre => pre <+: xs) N w)
    (hq : ∀ pre, ∀ y ∈ Lq, y ∈ blk pre) (hgs : ∀ pre x, (blk (pre ++ [x])).map (·.g) = (blk pre).map (·.g))
    (hA : ∀ x a, EnvOK n e a → EnvOK n (envA x) { tmps := (ps.zip (encs x)).foldl (fun t (p, v) => t.setIfInBounds p v) a.tmps, defers := [] })
    (hassign : ∀ x l pre W (K : Act → World → Prop), Tr n (envB x) W ((blk pre).map (·.g)) (blk pre) K → Tr n (envA x) W ((blk pre).map (·.g)) (blk pre) (Code.wpIn (Fence.wide.inRound l) 1 P assign (Exit.then K (fun _ _ _ => False))))
    (hbody : ∀ l pre x W, pre <+: xs → pre.length < N → Tr n (envB x) W ((blk pre).map (·.g)) (blk pre) (Code.wpIn (Fence.wide.inRound l) 1 P body (fun ex _ W' => (ex = .normal ∧ (pre ++ [x]) <+: xs ∧ Hp W ((blk pre).map (·.g)) (blk (pre ++ [x])) W') ∨ (ex = .ret ∧ ¬ (pre ++ [x]) <+: xs ∧ ∃ L2, Hp W ((blk pre).map (·.g)) L2 W'))))
    (hdone : ∀ D W, B.heap.size ≤ D → W.heap[D]? = some (.deferred (some [])) → TrM [{ target := .collected D, args := #[] }] n e W ((blk xs).map (·.g)) (blk xs) (fun a W' => Hp B E (blk xs) W → W' = W → Q .normal a W')) :
    Tr n e B E (blk []) (Code.wp P (.rangeFunc g ps assign body) Q) := fun a w he hw => by
  refine (wpIn_wide (n := 3)).1 ?_
  have hB : B.heap.size ≤ w.heap.size := hw.size
  have hlt : ∀ y ∈ blk [], y.g < w.heap.size := fun y hy => hw.lt hy
  have hgs0 : ∀ pre, (blk pre).map (·.g) = (blk []).map (·.g) := fun pre => by
    have key : ∀ r : List α, (blk r.reverse).map (·.g) = (blk []).map (·.g) := fun r => by
      induction r with
      | nil => rfl
      | cons x r ih => rw [List.reverse_cons, hgs, ih]
    have := key pre.reverse
    rwa [List.reverse_reverse] at this
  have hqlt : ∀ y ∈ Lq, y.g < w.heap.size := fun y hy => hlt y (hq [] y hy)
  have keeps : ∀ {pre : List α} {W W' : World} {L2 : List Ent}, Hp B E (blk pre) W → Hp W ((blk pre).map (·.g)) L2 W' → KeepsFrom w.heap.size W W' := fun {pre W W' L2} h1 h2 => ⟨h2.size, fun k o _ hk ho => by
    have hk2 := (Array.getElem?_eq_some_iff.1 hk).1
    rw [h2.old k hk2 ?_]
    · exact hk
    · intro hm
      obtain ⟨y, hy, rfl⟩ := List.mem_map.1 hm
      rw [(h1.blk y hy).1] at hk
      cases hk
      simp [Obj.isCells] at ho⟩
  refine wpIn_rangeFunc_ownH (F := Fence.wide) (Kp := KeepL Lq) (S := fun ys => ys = xs) (Sp := fun pre => pre <+: xs) (N := N) (w0 := w) (encs := encs) rfl (by decide) (he.eval hg) trivial eg (hseq w hw)
    (fun h1 h2 => h1.trans h2) (fun W l o o' hl ho _ _ => ⟨rfl, rfl, rfl, by simp, fun y hy => World.putObj_heap_other (by have := hqlt y hy; omega)⟩) (Go.RowKit.Below.refl _ _) hps
    (fun pre W => pre <+: xs ∧ Hp B E (blk pre) W) (fun c pre _ => ¬ pre <+: xs) (OwnFrom.and (ownFrom_pure _ _) (Hp.ownFrom hB blk)) (fun _ => ownFrom_pure _ _) ⟨List.nil_prefix, hw⟩
    (fun x a' _ => EnvOK n (envB x) a') (fun x a' => ownFrom_pure _ _) ?_ ?_ ?_ ?_
  · intro l pre x W K hI hK
    obtain ⟨hpre, hh⟩ := hI
    refine hassign x l pre W K (fun a' W' he' hw' => hK a' W' (keeps hh hw') ⟨hw'.os, hw'.tape, hw'.output, hw'.size, fun y hy => ?_⟩ ⟨hpre, hh.join hw' rfl⟩ he') _ W (hA x a he) (Hp.again hh.lies hh.apart)
    rw [(hw'.blk y (hq _ y hy)).1, (hh.blk y (hq _ y hy)).1]
  · intro l pre x a' W _ _ hI hAx hlen
    obtain ⟨hpre, hh⟩ := hI
    refine Code.wpIn_mono (fun ex a2 W' h => ?_) (hbody l pre x W hpre hlen a' W hAx (Hp.again hh.lies hh.apart))
    rcases h with ⟨rfl, h1, h2⟩ | ⟨rfl, h1, L2, h2⟩
    · refine ⟨keeps hh h2, ⟨h2.os, h2.tape, h2.output, h2.size, fun y hy => ?_⟩, h1, hh.join h2 (hgs _ _)⟩
      rw [(h2.blk y (hq _ y hy)).1, (hh.blk y (hq _ y hy)).1]
    · exact ⟨keeps hh h2, h1⟩
  · intro D ys W hD hS hI hK
    obtain rfl : ys = xs := hS
    have hh := hI.2
    have := hdone D W (Nat.le_trans hB hD) hK { a with defers := [{ target := .collected D, args := #[] }] } W ⟨he.size, rfl, he.has⟩ rfl (Hp.again hh.lies hh.apart) hh rfl
    rw [he.defers]
    exact this
  · intro D c pre W _ hSp hIx _
    exact absurd hSp hIx
theorem TrM.ret (h : TrM ds n e B E L (Q .ret)) : TrM ds n e B E L (Code.wp P .ret Q) := fun a w he ha hw => wp_ret (h a w he ha hw)
end
end Go.Sym
