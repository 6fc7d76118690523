/-
  Rules of the walk, on: callees that turn several blocks, fields, structs written out, pointers against nil, the mark on a literal's bytes, a new start.
-/
import Derived.Test.YtnhfmmohdiccgaaSymG
import Derived.Lib.SlBytesConst
import Derived.Laws.Externs
namespace Go.Sym

theorem Hp.perm {B : World} {E : List Nat} {L L' : List Ent} {w : World} (h : Hp B E L w) (hp : L.Perm L') : Hp B E L' w :=
  ⟨h.os, h.tape, h.output, h.size, h.old, fun x hx => h.blk x (hp.mem_iff.2 hx), ((hp.map _).nodup_iff).1 h.apart⟩
/-- A callee's own start, told of some blocks of the caller's. -/
theorem Hp.own {B : World} {E : List Nat} {L : List Ent} {w : World} (h : Hp B E L w) : Hp w (L.map (·.g)) L w :=
  ⟨rfl, rfl, rfl, Nat.le_refl _, (fun _ _ _ => rfl), (fun x hx => ⟨(h.blk x hx).1, .inl (List.mem_map_of_mem (f := (·.g)) hx)⟩), h.apart⟩
/-- A call whose callee turns some blocks of the caller's. -/
theorem Hp.callX {B : World} {E : List Nat} {X R Y : List Ent} {w w' : World} (h : Hp B E (X ++ R) w) (hc : Hp w (X.map (·.g)) Y w') : Hp B E (Y ++ R) w' := by
  have hX : ∀ g ∈ X.map (·.g), (g ∈ E ∨ B.heap.size ≤ g) ∧ g < w.heap.size := fun g hg => by
    obtain ⟨x, hx, rfl⟩ := List.mem_map.1 hg
    exact ⟨(h.blk x (List.mem_append_left _ hx)).2, h.lt (List.mem_append_left _ hx)⟩
  have hap := h.apart
  rw [List.map_append, List.nodup_append] at hap
  have hR : ∀ z ∈ R, z.g < w.heap.size ∧ z.g ∉ X.map (·.g) := fun z hz =>
    ⟨h.lt (List.mem_append_right _ hz), fun hm => hap.2.2 _ hm _ (List.mem_map_of_mem (f := (·.g)) hz) rfl⟩
  refine ⟨hc.os.trans h.os, hc.tape.trans h.tape, hc.output.trans h.output, Nat.le_trans h.size hc.size, fun k hk1 hk2 => ?_, fun z hz => ?_, ?_⟩
  · rw [hc.old k (Nat.lt_of_lt_of_le hk1 h.size) (fun hm => ?_)]
    · exact h.old k hk1 hk2
    · rcases (hX k hm).1 with h' | h'
      · exact hk2 h'
      · omega
  · rcases List.mem_append.1 hz with hz | hz
    · refine ⟨(hc.blk z hz).1, ?_⟩
      rcases (hc.blk z hz).2 with h' | h'
      · exact (hX _ h').1
      · exact .inr (Nat.le_trans h.size h')
    · rw [hc.old z.g (hR z hz).1 (hR z hz).2]; exact h.blk z (List.mem_append_right _ hz)
  · rw [List.map_append, List.nodup_append]
    refine ⟨hc.apart, hap.2.1, fun a ha b hb => ?_⟩
    obtain ⟨x, hx, rfl⟩ := List.mem_map.1 ha
    obtain ⟨y, hy, rfl⟩ := List.mem_map.1 hb
    rcases (hc.blk x hx).2 with h' | h'
    · exact fun he => (hR y hy).2 (he ▸ h')
    · have := (hR y hy).1
      show x.g ≠ y.g
      omega
/-- One walk behind another one. -/
theorem Hp.trans {B : World} {E : List Nat} {L L2 : List Ent} {w w2 : World} (h : Hp B E L w) (h2 : Hp w (L.map (·.g)) L2 w2) : Hp B E L2 w2 := by
  have := Hp.callX (X := L) (R := []) (by simpa using h) h2
  simpa using this

section
variable {P : Program} {n : Nat} {e : Env} {B : World} {E : List Nat} {L L' : List Ent} {ops : Array Oper} {Q : Exit → Act → World → Prop} {rest : List Oper} {K : Act → World → Prop}
theorem Tr.opG {dst : Option Tmp} {op : Op} {ty : TypeId} {pos : String} {af : Array Edge} {j : Nat} {b : Bool} (hg : gv ops e j = some b) (h : WOp P n e B E L Q dst op ty (wpList P ops Q rest)) : Tr n e B E L (wpList P ops Q (⟨dst, op, ty, pos, af, some (j, b)⟩ :: rest)) := fun a w he hw => by
  unfold wpList
  rw [if_pos (by simp [Region.wanted, yielded_of_gv he hg])]
  exact .inl (h pos af _ a w he hw)
theorem RdP.headL {g : Nat} {ty : TypeId} {xs junk : List Value} (hm : (⟨g, ty, xs ++ junk⟩ : Ent) ∈ L) : RdP B E L (some ⟨g, 0, none⟩) xs := by
  have := RdP.blk (B := B) (E := E) hm 0 xs.length
  rwa [List.drop_zero, List.take_left] at this
theorem RdP.all {g : Nat} {ty : TypeId} {xs : List Value} (hm : (⟨g, ty, xs⟩ : Ent) ∈ L) : RdP B E L (some ⟨g, 0, none⟩) xs := by
  have := RdP.blk (B := B) (E := E) hm 0 xs.length
  rwa [List.drop_zero, List.take_length] at this
/-- Bytes ahead of others. -/
theorem RdP.pre {g : Nat} {ty : TypeId} {xs ys : List (BitVec 8)} {junk : List Value} (hm : (⟨g, ty, (xs ++ ys).map U8 ++ junk⟩ : Ent) ∈ L) : RdP B E L (some ⟨g, 0, none⟩) (xs.map U8) := by
  rw [List.map_append, List.append_assoc] at hm
  exact RdP.headL hm
namespace V
theorem fieldS {t ty : TypeId} {x : Operand} {f g o o' sz : Nat} {fs : Array Field} {fd : Field} (ht : ∀ w, (underlying t).run P w = .ok (.struct fs) w) (hf : fs[f]? = some fd) (hx : ev e x = some (.pointer (some ⟨g, o, none⟩)))
    (hs : ∀ w, (sizeOf fd.type).run P w = .ok sz w) (h0 : 0 < sz) (ho : o + fd.offset = o') : VOp P n e B E L (.fieldAddr t x f) ty (.pointer (some ⟨g, o', none⟩)) :=
  fieldA ht hf hx fun w => by
    have h1 : ¬ sz = 0 := by omega
    have h2 : (⟨g, o, none⟩ : Addr).add fd.offset = ⟨g, o', none⟩ := by
      have := at_own g o fd.offset
      simp only [at_, Option.getD_some] at this
      rw [this, ho]
    simp [fieldPlace, hs, h1, h2]
theorem buildS {t ty : TypeId} {fs : Array Field} {parts : Array (Nat × Operand)} {vs : List (Nat × Value)} {z : Value} {pl : Array (Nat × Nat)} {cs : Array Value} (ht : ∀ w, (underlying t).run P w = .ok (.struct fs) w)
    (hz : ∀ w, (zeroValue t).run P w = .ok z w) (hpl : ∀ w, ((fs.mapM fun f => do pure (f.offset, ← sizeOf f.type)) : Sem (Array (Nat × Nat))).run P w = .ok pl w)
    (hx : ∀ a, EnvOK n e a → parts.map (fun (i, x) => (i, a.eval x)) = vs.toArray) (hf : Instr.fill (pl[·]?) z.cells vs = some cs) : VOp P n e B E L (.build t parts) ty (.agg cs) :=
  V.build hx fun w => by
    unfold Instr.build
    simp only [Sem.run_bind, hz, ht, hpl, Result.andThen_ok, hf, Sem.run_pure]
theorem cut {t el ty : TypeId} {x y : Operand} {m c h : Nat} {p : Option Addr} (ht : ∀ w, (underlying t).run P w = .ok (.slice el) w) (hs : ∀ w, (sizeOf el).run P w = .ok 1 w)
    (hx : ev e x = some (.slice p m c)) (hy : ev e y = some (.int .i64 (h : Int))) (h2 : h ≤ c) : VOp P n e B E L (.slice t x none (some y) none) ty (.slice p h c) := by
  have := sliceS (P := P) (n := n) (B := B) (E := E) (L := L) (ty := ty) (lo := none) (hi := some y) (vl := none) (vh := some (.int .i64 (h : Int))) (l := 0) (h := h) ht hs hx rfl (by simp [evo, hy]) rfl rfl (Nat.zero_le _) h2
  have h3 : (if c = 0 then p else p.map (·.add 0)) = p := by
    split
    · rfl
    · cases p with
      | none => rfl
      | some a => simp [Addr.add]
  rw [h3] at this
  exact this
theorem eqlBb {t yt ty : TypeId} {x y : Operand} {i j b : Bool} (ht : ∀ w, (underlying t).run P w = .ok .bool w) (hx : ev e x = some (.bool i)) (hy : ev e y = some (.bool j)) (hb : (i == j) = b) :
    VOp P n e B E L (.binOp .eql t x y yt) ty (.bool b) := by
  rw [← hb]
  exact eqlB ht hx hy
/-- A call that is answered outside the program's text. -/
theorem callE {f : FuncId} {args : Array Operand} {ats : Array TypeId} {ty : TypeId} {vs : List Value} {v : Value} (hx : ∀ a, EnvOK n e a → args.map a.eval = vs.toArray)
    (hf : ∀ w, (callFunc f vs.toArray).run P w = .ok (.value v) w) : VOp P n e B E L (.call ⟨.value (.func f), args, ats⟩) ty v := fun a w _ _ _ _ he hw => by
  simp only [execOp, resolve, Act.eval, Deferred.ofValue, invoke, Sem.run_bind, Sem.run_pure, Result.andThen_ok, hx a he]
  simpa using hf w
theorem negI {t ty : TypeId} {x : Operand} {i : Int} (hx : ev e x = some (.int .i64 i)) (hb : -9223372036854775808 ≤ -i ∧ -i ≤ 9223372036854775807) :
    VOp P n e B E L (.unOp .neg t x) ty (.int .i64 (-i)) := fun a w _ _ _ _ he _ => by
  simp [execOp, he.eval hx, Op.unary, Op.intArith, wrap_id hb.1 hb.2]
theorem buildA {t el ty : TypeId} {len : Nat} {parts : Array (Nat × Operand)} {vs : List (Nat × Value)} {z : Value} {cs : Array Value} (ht : ∀ w, (underlying t).run P w = .ok (.array len el) w) (hs : ∀ w, (sizeOf el).run P w = .ok 1 w)
    (hz : ∀ w, (zeroValue t).run P w = .ok z w) (hx : ∀ a, EnvOK n e a → parts.map (fun (i, x) => (i, a.eval x)) = vs.toArray) (hf : Instr.fill (fun i => some (i * 1, 1)) z.cells vs = some cs) : VOp P n e B E L (.build t parts) ty (.agg cs) :=
  V.build hx fun w => by
    unfold Instr.build
    simp only [Sem.run_bind, hz, ht, hs, Result.andThen_ok, hf, Sem.run_pure]
theorem eqlPtr {t el yt ty : TypeId} {x y : Operand} {p : Option Addr} (ht : ∀ w, (underlying t).run P w = .ok (.pointer el) w) (hx : ev e x = some (.pointer p)) (hy : ev e y = some (.pointer none)) :
    VOp P n e B E L (.binOp .eql t x y yt) ty (.bool p.isNone) := fun a w _ _ _ _ he _ => by
  have h1 : ∀ d, (Op.equalIn (d + 1) t (.pointer p) (.pointer none)).run P w = .ok p.isNone w := fun d => by
    unfold Op.equalIn
    cases p <;> simp [ht]
  have h2 : (binOp .eql t (.pointer p) (.pointer none)).run P w = .ok (.bool p.isNone) w := by
    show ((do pure (Value.bool (← Op.equalIn (9999 + 1) t (.pointer p) (.pointer none)))) : Sem Value).run P w = _
    simp only [Sem.run_bind, Sem.run_pure, h1, Result.andThen_ok]
  have h3 : (eqGuard .eql t x y (.pointer p) (.pointer none)).run P w = .ok () w := by simp [eqGuard]
  simp only [execOp, he.eval hx, he.eval hy, Sem.run_bind, Sem.run_pure, h2, h3, Result.andThen_ok]
end V
namespace W
/-- A call whose callee turns some blocks of the caller's. -/
theorem callX {ι : Type} {val : ι → Value} {X R : List Ent} {Y : ι → List Ent} {Px : ι → Prop} {f : FuncId} {args : Array Operand} {ats : Array TypeId} {ty : TypeId} {d : Nat} {vs : List Value} (hx : ∀ a, EnvOK n e a → args.map a.eval = vs.toArray)
    (hf : ∀ xs w, (callFunc f xs).run P w = .ok (.enter f xs) w) (hd : Nat.blt d n = true) (hL : L.Perm (X ++ R))
    (hc : ∀ w, Hp w (X.map (·.g)) X w → Hp B E L w → Calls P f vs.toArray w fun r w' => ∃ i, r = .returned (val i) ∧ Hp w (X.map (·.g)) (Y i) w' ∧ Px i)
    (h : ∀ i, Px i → Tr n ((d, val i) :: e) B E (Y i ++ R) K) : WOp P n e B E L Q (some d) (.call ⟨.value (.func f), args, ats⟩) ty K :=
  W.callQ hx hf hd fun w hw => (hc w ((hw.perm hL).sub (List.sublist_append_left _ _)).own hw).mono fun _ _ ⟨i, h1, h2, h3⟩ => ⟨_, _, h1, (hw.perm hL).callX h2, h i h3⟩
theorem store1E {t ty tb : TypeId} {x y : Operand} {g o : Nat} {v : Value} {cs cs' : List Value} (hs : ∀ w, (sizeOf t).run P w = .ok 1 w) (hx : ev e x = some (.pointer (some ⟨g, o, none⟩))) (hy : ev e y = some v)
    (hc : v.cells = #[v]) (h1 : v.oneCell' = true) (he : cs.set o v = cs') (hu : Upd ⟨g, tb, cs⟩ ⟨g, tb, cs'⟩ L L') (hf : o < cs.length) (h : Tr n e B E L' K) : WOp P n e B E L Q none (.store t x y) ty K :=
  store1 hs hx hy hc h1 (by rw [he]; exact hu) hf h
/-- The mark on a literal's bytes: a new start. -/
theorem stringish {t el ty : TypeId} {x : Operand} {d g m c : Nat} {cs : List Value} {L0 : List Ent} (ht : ∀ w, (underlying t).run P w = .ok (.slice el) w) (hel : ∀ w, (underlying el).run P w = .ok (.int .u8) w)
    (hx : ev e x = some (.slice (some ⟨g, 0, none⟩) m c)) (hd : Nat.blt d n = true) (hL : L.Perm (⟨g, el, cs⟩ :: L0))
    (h : ∀ w1, Hp B E L0 w1 → RdB w1 (some ⟨g, 0, none⟩) cs → g ∉ L0.map (·.g) → Tr n ((d, .slice (some ⟨g, 0, none⟩) m c) :: e) w1 (L0.map (·.g)) L0 K) : WOp P n e B E L Q (some d) (.convert t t x) ty K := ok fun a w he hw => by
  have hw0 := hw.perm hL
  have hb := hw0.blk _ (.head _)
  have hlt := hw0.lt (.head _)
  have hap := hw0.apart
  rw [List.map_cons, List.nodup_cons] at hap
  have hsh : w.shape? g = some (el, cs.length) := by
    unfold World.shape?
    rw [hb.1]; simp
  obtain ⟨w1, hw1, hr1, hg1, hs1, ho1, hos, htp, hout⟩ : ∃ w1, w.freeze ⟨g, cs.length, none⟩ 1 = w1 ∧ (∀ k, k ≠ g → w1.heap[k]? = w.heap[k]?) ∧ w1.heap[g]? = some (.cells cs.toArray el (cs.length, cs.length + 1)) ∧ w1.heap.size = w.heap.size ∧ True ∧ w1.os = w.os ∧ w1.tape = w.tape ∧ w1.output = w.output := by
    refine ⟨_, rfl, ?_⟩
    unfold World.freeze
    rw [if_neg (by decide)]
    refine ⟨fun k hk => ?_, ?_, by simp, trivial, rfl, rfl, rfl⟩
    · simp only [Array.getElem?_modify]
      rw [if_neg (fun h => hk h.symm)]
    · simp only [Array.getElem?_modify]
      rw [if_pos trivial, hb.1]
      rfl
  have hp1 : Hp B E L0 w1 := by
    refine ⟨hos.trans hw.os, htp.trans hw.tape, hout.trans hw.output, by rw [hs1]; exact hw.size, fun k hk1 hk2 => ?_, fun z hz => ?_, hap.2⟩
    · rw [hr1 k (fun he' => ?_)]
      · exact hw.old k hk1 hk2
      · rcases hb.2 with h' | h'
        · exact hk2 (he' ▸ h')
        · have h'' : B.heap.size ≤ g := h'
          omega
    · rw [hr1 z.g (fun he' => hap.1 (List.mem_map.2 ⟨z, hz, he'⟩))]
      exact hw0.blk z (.tail _ hz)
  refine ⟨.slice (some ⟨g, 0, none⟩) m c, w1, fun pos af gd => ?_, h w1 hp1 ?_ hap.1 _ _ (he.put hd _) hp1.own⟩
  · simp [execOp, he.eval hx, convert, ht, hel, markStringish, hsh]
    exact hw1
  · intro j u hu
    refine ⟨rfl, ?_⟩
    rw [at_own, Nat.zero_add]
    simp [World.cell?, hg1, hu]
end W
end
/-- What bits.Add64 carries. -/
def cy64 (X Y C : BitVec 64) : BitVec 64 := BitVec.ofNat 64 ((X.toNat + Y.toNat + C.toNat) / 18446744073709551616)
theorem cy64_toNat (X Y C : BitVec 64) : (cy64 X Y C).toNat = (X.toNat + Y.toNat + C.toNat) / 18446744073709551616 := by
  unfold cy64
  rw [BitVec.toNat_ofNat]
  have := X.isLt; have := Y.isLt; have := C.isLt
  omega
theorem sum64_toNat (X Y C : BitVec 64) : (X + Y + C).toNat = (X.toNat + Y.toNat + C.toNat) % 18446744073709551616 := by
  rw [BitVec.toNat_add, BitVec.toNat_add]
  omega
theorem add64_run {P : Program} {f : FuncId} (hf : ∀ (args : Array Value) (w : World), (callFunc f args).run P w = ((add64Entry args).run P w).andThen fun v w' => .ok (.value v) w') (X Y C : BitVec 64) (hC : C.toNat ≤ 1) (w : World) :
    (callFunc f [U64 X, U64 Y, U64 C].toArray).run P w = .ok (.value (.tuple #[U64 (X + Y + C), U64 (cy64 X Y C)])) w := by
  rw [hf]
  have h := run_add64 (P := P) (X.toNat : Int) (Y.toNat : Int) (C.toNat : Int) (by omega) (by omega) (by omega) (by omega) w
  have h2 : ([U64 X, U64 Y, U64 C].toArray : Array Value) = #[.int .u64 (X.toNat : Int), .int .u64 (Y.toNat : Int), .int .u64 (C.toNat : Int)] := rfl
  rw [h2, h, Result.andThen_ok]
  have h3 := sum64_toNat X Y C
  have h4 := cy64_toNat X Y C
  have e1 : ((X.toNat : Int) + Y.toNat + C.toNat) % 18446744073709551616 = ((X + Y + C).toNat : Int) := by omega
  have e2 : ((X.toNat : Int) + Y.toNat + C.toNat) / 18446744073709551616 = ((cy64 X Y C).toNat : Int) := by omega
  rw [e1, e2]
end Go.Sym
