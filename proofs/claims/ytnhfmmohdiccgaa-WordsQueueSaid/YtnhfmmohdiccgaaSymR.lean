/-
  Rules of the walk, on: a range over a function.
-/
import Derived.Test.YtnhfmmohdiccgaaSymJ
import Derived.RangeFuncNested
import Derived.RangeFuncLeaves
import Derived.LoopNIn
namespace Go.Sym
section
variable {P : Program} {F : Fence} {m n : Nat} {e : Env} {B : World} {E : List Nat} {L L' : List Ent} {ops : Array Oper} {Q : Exit → Act → World → Prop} {rest : List Oper} {K : Act → World → Prop}
/-! ### A fence that shuts nothing out -/
def Broad (F : Fence) : Prop := F = Fence.wide ∨ ∃ l, F = Fence.wide.inRound l
theorem Broad.wide : Broad Fence.wide := .inl rfl
theorem Broad.round (l : Nat) : Broad (Fence.wide.inRound l) := .inr ⟨l, rfl⟩
theorem Broad.fn (h : Broad F) (f : FuncId) : F.fn f := by
  rcases h with rfl | ⟨l, rfl⟩
  · exact trivial
  · exact trivial
theorem Broad.depth (h : Broad F) : F.depth = none := by
  rcases h with rfl | ⟨l, rfl⟩ <;> rfl
theorem Broad.calls (h : Broad F) {f : FuncId} {args : Array Value} {w : World} {R : Ending → World → Prop} (hc : Calls P f args w R) : CallsIn F m P f args w R := by
  rcases h with rfl | ⟨l, rfl⟩
  · exact callsIn_wide.2 hc
  · exact CallsIn.inRound l (callsIn_wide.2 hc)
theorem Broad.rows (h : Broad F) {row : String} {args : Array Value} {w : World} {R : Value → World → Prop} (hc : Rows P row args w R) : RowsIn F m P row args w R := fun c cs _ => by
  obtain ⟨v, w', hr, hs⟩ := hc c cs
  refine ⟨v, w', hr, ?_⟩
  have h1 : StepsIn (Machine.fenced P Fence.wide) P (lone (Frame.ofRow P row args .normal) (c :: cs) w) (lone (c.finish v) cs w') := stepsIn_wide.2 hs
  rcases h with rfl | ⟨l, rfl⟩
  · exact h1
  · exact h1
def noDefer : Op → Bool
  | .defer _ => false
  | _ => true
theorem semAt_of {op : Op} (hd : noDefer op = true) (ro : Option Nat) (ρ : Operand → Value) (dst : Option Tmp) (ty : TypeId) (pos : String) (af : Array Edge) (g : Option (Nat × Bool)) :
    Oper.semAt ro ρ ⟨dst, op, ty, pos, af, g⟩ = execOp ρ ⟨dst, op, ty, pos, af, g⟩ := Oper.semAt_eq _ _ _ fun c hc => by
  simp only at hc
  rw [hc] at hd
  cases hd
theorem opIn (hF : Broad F) {dst : Option Tmp} {op : Op} {ty : TypeId} {pos : String} {af : Array Edge} {g : Option (Nat × Bool)} (hd : noDefer op = true) {a : Act} {w : World} (h : Oper.wp P ⟨dst, op, ty, pos, af, g⟩ a w K Q) :
    Oper.wpIn F m P ⟨dst, op, ty, pos, af, g⟩ a w K Q := by
  refine ⟨fun f _ => hF.fn f, ?_⟩
  rw [semAt_of hd]
  unfold Oper.wp at h
  have h0 : F.depth.isSome = true → 1 ≤ m := fun hd => by rw [hF.depth] at hd; cases hd
  generalize (execOp a.eval ⟨dst, op, ty, pos, af, g⟩).run P w = r at *
  cases r with
  | ok x w' =>
    cases x with
    | value v => exact h
    | skip => exact h
    | defer d => exact h
    | enter f args => exact ⟨h0, hF.calls h⟩
    | row row args => exact ⟨h0, hF.rows h⟩
    | _ => exact h.elim
  | halt x w' =>
    cases x with
    | panic v => exact h
    | _ => exact h.elim
/-! ### Lists of operations, and code, within such a fence -/
theorem Tr.valN (hF : Broad F) {op : Op} {ty : TypeId} {d : Nat} {pos : String} {af : Array Edge} {v : Value} (hn : noDefer op = true) (hv : VOp P n e B E L op ty v) (hd : Nat.blt d n = true) (h : Tr n ((d, v) :: e) B E L (wpListIn F m P ops Q rest)) :
    Tr n e B E L (wpListIn F m P ops Q (⟨some d, op, ty, pos, af, none⟩ :: rest)) := fun a w he hw => by
  refine wpListIn_plain rfl fun K hK => opIn hF hn ?_
  unfold Oper.wp
  rw [hv a w _ _ _ _ he hw]
  exact hK _ _ (h _ _ (he.put hd v) hw)
theorem Tr.valGN (hF : Broad F) {op : Op} {ty : TypeId} {d : Nat} {pos : String} {af : Array Edge} {v : Value} {j : Nat} {b : Bool} (hn : noDefer op = true) (hg : gv ops e j = some b) (hv : VOp P n e B E L op ty v) (hd : Nat.blt d n = true)
    (h : Tr n ((d, v) :: e) B E L (wpListIn F m P ops Q rest)) : Tr n e B E L (wpListIn F m P ops Q (⟨some d, op, ty, pos, af, some (j, b)⟩ :: rest)) := fun a w he hw => by
  refine wpListIn_step fun K hK => ?_
  rw [if_pos (by simp [Region.wanted, yielded_of_gv he hg])]
  refine opIn hF hn ?_
  unfold Oper.wp
  rw [hv a w _ _ _ _ he hw]
  exact hK _ _ (h _ _ (he.put hd v) hw)
theorem Tr.opN (hF : Broad F) {dst : Option Tmp} {op : Op} {ty : TypeId} {pos : String} {af : Array Edge} (hn : noDefer op = true) (h : WOp P n e B E L Q dst op ty (wpListIn F m P ops Q rest)) : Tr n e B E L (wpListIn F m P ops Q (⟨dst, op, ty, pos, af, none⟩ :: rest)) := fun a w he hw => by
  unfold wpListIn
  rw [if_pos (by simp [Region.wanted])]
  exact opIn hF hn (h pos af none a w he hw)
theorem Tr.lNilN (h : Tr n e B E L (Q .normal)) : Tr n e B E L (wpListIn F m P ops Q []) := fun a w he hw => wpListIn_nil (h a w he hw)
theorem Tr.regionN {id : Nat} {l : List Oper} (h : Tr n e B E L (wpListIn F m P l.toArray Q l)) : Tr n e B E L (Code.wpIn F m P (.region id l.toArray false) Q) := fun a w he hw => wpIn_region_lit (h a w he hw)
theorem Tr.seqN {x y : Code} (h : Tr n e B E L (Code.wpIn F m P x (Exit.then (Code.wpIn F m P y Q) Q))) : Tr n e B E L (Code.wpIn F m P (.seq x y) Q) := fun a w he hw => wpIn_seq (h a w he hw)
theorem Tr.skipN (h : Tr n e B E L (Q .normal)) : Tr n e B E L (Code.wpIn F m P .skip Q) := fun a w he hw => wpIn_skip (h a w he hw)
theorem Tr.exitN {id : Nat} (h : Tr n e B E L (Q (.exit id))) : Tr n e B E L (Code.wpIn F m P (.exit id) Q) := fun a w he hw => wpIn_exit (h a w he hw)
theorem Tr.retN (h : Tr n e B E L (Q .ret)) : Tr n e B E L (Code.wpIn F m P .ret Q) := fun a w he hw => wpIn_ret (h a w he hw)
theorem Tr.blockN {id : Nat} {c : Code} (h : Tr n e B E L (Code.wpIn F m P c (Exit.inBlock id Q))) : Tr n e B E L (Code.wpIn F m P (.block id c) Q) := fun a w he hw => wpIn_block (h a w he hw)
theorem Tr.condTN {c : Operand} {x y : Code} (hc : ev e c = some (.bool true)) (ht : Tr n e B E L (Code.wpIn F m P x Q)) : Tr n e B E L (Code.wpIn F m P (.cond c x y) Q) := fun a w he hw => wpIn_cond_true (he.eval hc) (ht a w he hw)
theorem Tr.condFN {c : Operand} {x y : Code} (hc : ev e c = some (.bool false)) (hf : Tr n e B E L (Code.wpIn F m P y Q)) : Tr n e B E L (Code.wpIn F m P (.cond c x y) Q) := fun a w he hw => wpIn_cond_false (he.eval hc) (hf a w he hw)
theorem Tr.enterN {f : FuncId} {fn : Func} {c : Code} {args : List Value} {w : World} {R : Ending → World → Prop} (hf : P.funcs[f]? = some fn) (hb : fn.body = some c) (hn : fn.ntmps = n) (hl : Nat.ble args.length n = true) (hw : Hp B E L w)
    (h : Tr n (argEnv 0 args) B E L (Code.wpIn Fence.wide m P c (bodyPost P fn R))) : CallsIn Fence.wide m P f args.toArray w R := by
  have hl' : args.length ≤ n := Nat.le_of_ble_eq_true hl
  refine callsIn_of_wp hf hb trivial (h _ _ ⟨?_, rfl, fun i v hv => ?_⟩ hw)
  · simp [hn]; omega
  · have := (lk_argEnv args 0 i v hv).2
    simp only [Nat.sub_zero] at this
    have hlt := (List.getElem?_eq_some_iff.1 this).1
    show (args.toArray ++ Array.replicate _ undef)[i]? = some v
    rw [Array.getElem?_append_left (by simpa using hlt)]
    simpa using this
/-- The way into a function that holds a range over a function. -/
theorem Tr.enterM {f : FuncId} {fn : Func} {c : Code} {args : List Value} {w : World} {R : Ending → World → Prop} (hf : P.funcs[f]? = some fn) (hb : fn.body = some c) (hn : fn.ntmps = n) (hl : Nat.ble args.length n = true) (hw : Hp w E L w)
    (h : Tr n (argEnv 0 args) w E L (Code.wp P c (bodyPostM Fence.wide 3 P fn R))) : Calls P f args.toArray w R := by
  have hl' : args.length ≤ n := Nat.le_of_ble_eq_true hl
  refine callsIn_wide.1 (callsIn_of_wp_marks (n := 3) hf hb trivial (wpIn_wide.2 (h _ _ ⟨?_, rfl, fun i v hv => ?_⟩ hw)))
  · simp [hn]; omega
  · have := (lk_argEnv args 0 i v hv).2
    simp only [Nat.sub_zero] at this
    have hlt := (List.getElem?_eq_some_iff.1 this).1
    show (args.toArray ++ Array.replicate _ undef)[i]? = some v
    rw [Array.getElem?_append_left (by simpa using hlt)]
    simpa using this
/-- A loop that goes round at most so often. -/
theorem loopN {c : Code} (len : Nat) (inv : Nat → Act → World → Prop) (hround : ∀ k a w, k ≤ len → inv k a w → Code.wpIn F m P c (Exit.then (fun a' w' => inv (k + 1) a' w' ∧ k < len) Q) a w) {a : Act} {w : World} (h0 : inv 0 a w) :
    Code.wpIn F m P (.loop c) Q a w := by
  refine wpIn_loop_rounds (len + 1) ?_
  have key : ∀ j k a w, len - k ≤ j → k ≤ len → inv k a w → Code.roundsIn F m P c Q (j + 1) a w := by
    intro j
    induction j with
    | zero =>
      intro k a w hj hk hi
      rw [roundsIn_succ]
      refine Code.wpIn_mono (fun x a' w' h => ?_) (hround k a w hk hi)
      cases x with
      | normal => exact absurd h.2 (by omega)
      | _ => exact h
    | succ j ih =>
      intro k a w hj hk hi
      rw [roundsIn_succ]
      refine Code.wpIn_mono (fun x a' w' h => ?_) (hround k a w hk hi)
      cases x with
      | normal => exact ih (k + 1) a' w' (by have := h.2; omega) h.2 h.1
      | _ => exact h
  exact key len 0 a w (by omega) (Nat.zero_le _) h0
/-! ### Worlds that have grown -/
/-- Some blocks lie in a world. -/
def Lies (L : List Ent) (w : World) : Prop := ∀ x ∈ L, w.heap[x.g]? = some (.cells x.cells.toArray x.ty (0, 0))
theorem Hp.lies {w : World} (h : Hp B E L w) : Lies L w := fun x hx => (h.blk x hx).1
theorem Hp.again {w : World} (hL : Lies L w) (hn : (L.map (·.g)).Nodup) : Hp w (L.map (·.g)) L w :=
  ⟨rfl, rfl, rfl, Nat.le_refl _, fun _ _ _ => rfl, fun x hx => ⟨hL x hx, .inl (List.mem_map_of_mem hx)⟩, hn⟩
/-- Nothing but growth. -/
theorem Hp.grown {w : World} (hL : Lies L B) (h : Hp B (L.map (·.g)) L w) : B.grownBy w none :=
  ⟨h.os, h.tape, h.output, h.size, fun k hk _ => by
    by_cases hE : k ∈ L.map (·.g)
    · obtain ⟨x, hx, rfl⟩ := List.mem_map.1 hE
      rw [(h.blk x hx).1, hL x hx]
    · exact h.old k hk hE⟩
/-- What a round that goes on keeps. -/
structure KeepL (L : List Ent) (w w' : World) : Prop where
  os : w'.os = w.os
  tape : w'.tape = w.tape
  output : w'.output = w.output
  size : w.heap.size ≤ w'.heap.size
  blk : ∀ x ∈ L, w'.heap[x.g]? = w.heap[x.g]?
theorem KeepL.trans {w w1 w2 : World} (h : KeepL L w w1) (h2 : KeepL L w1 w2) : KeepL L w w2 :=
  ⟨h2.os.trans h.os, h2.tape.trans h.tape, h2.output.trans h.output, Nat.le_trans h.size h2.size, fun x hx => (h2.blk x hx).trans (h.blk x hx)⟩
theorem KeepL.lies {w w' : World} (h : KeepL L w w') (hL : Lies L w) : Lies L w' := fun x hx => (h.blk x hx).trans (hL x hx)
theorem Hp.ownFrom {β : Type} {N : Nat} (hN : B.heap.size ≤ N) (blk : β → List Ent) : OwnFrom N (fun s W => Hp B E (blk s) W) := fun s W W' row hs hg hr => by
  have hne : ∀ x ∈ blk s, some x.g ≠ row := fun x hx he => by
    obtain ⟨_, o, ho, hc⟩ := hr x.g he.symm
    rw [(hs.blk x hx).1] at ho
    cases ho
    simp [Obj.isCells] at hc
  have hlt : ∀ x ∈ blk s, x.g < W.heap.size := fun x hx => hs.lt hx
  refine ⟨hg.os.trans hs.os, hg.tape.trans hs.tape, hg.output.trans hs.output, Nat.le_trans hs.size hg.size, fun k hk hE => ?_, fun x hx => ⟨?_, (hs.blk x hx).2⟩, hs.apart⟩
  · refine (hg.block k (Nat.lt_of_lt_of_le hk hs.size) fun he => ?_).trans (hs.old k hk hE)
    have := (hr k he.symm).1
    omega
  · rw [hg.block x.g (hlt x hx) (hne x hx)]
    exact (hs.blk x hx).1
theorem Hp.putObj {w : World} (h : Hp B E L w) {D : Nat} {o : Obj} (o' : Obj) (hB : B.heap.size ≤ D) (hD : w.heap[D]? = some o) (ho : o.isCells = false) : Hp B E L (w.putObj D o') :=
  Hp.ownFrom (β := Unit) (E := E) hB (fun _ => L) () w _ (some D) h (grownBy_putObj' w D o') (fun r e => by cases e; exact ⟨Nat.le_refl _, o, hD, ho⟩)
/-! ### yield -/
theorem Tr.yield (hF : Broad F) {l : Nat} {y x : Operand} {v : Value} {ats : Array TypeId} {ty : TypeId} {d : Nat} {pos : String} {af : Array Edge} {T S : World → Prop}
    (hy : ev e y = some (.func (.yield l) #[] #[])) (hx : ev e x = some v) (hd : Nat.blt d n = true)
    (hY : ∀ w, Hp B E L w → YieldAt F (m - 1) P l #[v] w fun r w' => (r = .returned (.bool true) ∧ T w') ∨ (r = .returned (.bool false) ∧ S w'))
    (hT : ∀ w', T w' → ∀ a, EnvOK n ((d, .bool true) :: e) a → wpListIn F m P ops Q rest a w') (hS : ∀ w', S w' → ∀ a, EnvOK n ((d, .bool false) :: e) a → wpListIn F m P ops Q rest a w') :
    Tr n e B E L (wpListIn F m P ops Q (⟨some d, .call ⟨.value y, #[x], ats⟩, ty, pos, af, none⟩ :: rest)) := fun a w he hw => by
  refine wpListIn_plain rfl fun K hK => ⟨fun f _ => hF.fn f, ?_⟩
  obtain ⟨fn, tmps, assign, body, hrun, hR⟩ := hY w hw
  have h1 : (execOp a.eval ⟨some d, .call ⟨.value y, #[x], ats⟩, ty, pos, af, none⟩).run P w = .ok (.round l fn tmps assign body) w := by
    simp [execOp, resolve, invoke, Deferred.ofValue, he.eval hy, he.eval hx, hrun]
  rw [semAt_of rfl, h1]
  refine ⟨fun hd => (by rw [hF.depth] at hd; cases hd), hR.mono ?_⟩
  rintro r w' (⟨rfl, ht⟩ | ⟨rfl, hs⟩)
  · exact hK _ _ (hT w' ht _ (he.put hd _))
  · exact hK _ _ (hS w' hs _ (he.put hd _))
theorem arr2 (a b : Value) : (#[a] ++ #[b] : Array Value) = [a, b].toArray := by simp
/-- A function value that has captured one. -/
theorem V.makeFunc {f : FuncId} {x : Operand} {v : Value} {ty : TypeId} (hx : ev e x = some v) : VOp P n e B E L (.makeFunc (.func f) #[] #[x]) ty (.func (.func f) #[] #[v]) := fun a w _ _ _ _ he _ => by
  simp [execOp, Instr.makeFunc, he.eval hx]
end
end Go.Sym
