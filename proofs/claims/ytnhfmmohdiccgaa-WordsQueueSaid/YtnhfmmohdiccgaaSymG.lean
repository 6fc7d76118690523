/-
  Rules of the walk, on: bytes to a string, masks of numbers, zeros appended, copy.
-/
import Derived.Test.YtnhfmmohdiccgaaSymF
namespace Go.Sym
section
variable {P : Program} {n : Nat} {e : Env} {B : World} {E : List Nat} {L L' : List Ent} {ops : Array Oper} {Q : Exit → Act → World → Prop} {rest : List Oper} {K : Act → World → Prop}

/-- A string of these bytes. -/
def bstr (xs : List (BitVec 8)) : ByteArray := ⟨(xs.map UInt8.ofBitVec).toArray⟩
theorem toList_loop (b : ByteArray) : ∀ (k i : Nat) (r : List UInt8), b.size - i = k → ByteArray.toList.loop b i r = r.reverse ++ b.data.toList.drop i := by
  intro k
  induction k with
  | zero =>
    intro i r hk
    have hi : ¬ i < b.size := by omega
    rw [ByteArray.toList.loop, if_neg hi, List.drop_eq_nil_of_le (by simp; show b.size ≤ i; omega)]
    simp
  | succ k ih =>
    intro i r hk
    have hi : i < b.size := by omega
    have hi' : i < b.data.toList.length := by simpa using hi
    rw [ByteArray.toList.loop, if_pos hi, ih (i + 1) _ (by omega), List.drop_eq_getElem_cons hi']
    have hg : b.get! i = b.data.toList[i] := by
      show b.data[i]! = _
      rw [getElem!_pos b.data i hi]; simp
    rw [hg]; simp
theorem bytes_toList (b : ByteArray) : b.toList = b.data.toList := by
  show ByteArray.toList.loop b 0 [] = _
  rw [toList_loop b b.size 0 [] rfl]; simp
theorem bstr_toList (xs : List (BitVec 8)) : (bstr xs).toList = xs.map UInt8.ofBitVec := by
  rw [bytes_toList]; simp [bstr]
theorem bstr_eq (xs ys : List (BitVec 8)) : ((bstr xs).toList == (bstr ys).toList) = decide (xs = ys) := by
  rw [bstr_toList, bstr_toList]
  by_cases h : xs = ys
  · subst h; simp
  · have : ¬ xs.map UInt8.ofBitVec = ys.map UInt8.ofBitVec := fun he => h (by
      have := congrArg (List.map UInt8.toBitVec) he
      simpa [List.map_map, Function.comp_def] using this)
    simp [h, this]
theorem bstr_same (xs : List (BitVec 8)) : ((bstr xs).toList == (bstr xs).toList) = true := by simp
theorem bstr_size (xs : List (BitVec 8)) : (bstr xs).size = xs.length := by simp [bstr, ByteArray.size]

namespace V
theorem mask {t yt ty : TypeId} {x y : Operand} {i : Int} {k : Nat} (hx : ev e x = some (.int .i64 i)) (hy : ev e y = some (.int .i64 ((2 ^ k - 1 : Nat) : Int))) (hk : k < 63) :
    VOp P n e B E L (.binOp .and t x y yt) ty (.int .i64 (i % (2 ^ k : Nat))) := int2 hx hy fun w => by
  have h1 : BitVec.ofInt 64 ((2 ^ k - 1 : Nat) : Int) = BitVec.ofNat 64 (2 ^ k - 1) := BitVec.ofInt_natCast ..
  have h2 : (BitVec.ofInt 64 i &&& BitVec.ofNat 64 (2 ^ k - 1)).toNat = (i % (2 ^ k : Nat)).toNat := by
    have hlt : 2 ^ k - 1 < 2 ^ 64 := by
      have := Nat.pow_lt_pow_right (a := 2) (by decide) (show k < 64 by omega)
      omega
    rw [BitVec.toNat_and, BitVec.toNat_ofNat, Nat.mod_eq_of_lt hlt, Nat.and_two_pow_sub_one_eq_mod, BitVec.toNat_ofInt]
    have hd : ((2 ^ k : Nat) : Int) ∣ ((2 ^ 64 : Nat) : Int) := Int.natCast_dvd_natCast.2 (Nat.pow_dvd_pow 2 (by omega))
    have hp : (0 : Int) < ((2 ^ k : Nat) : Int) := by have := Nat.two_pow_pos k; omega
    have h3 : (0 : Int) ≤ i % ((2 ^ 64 : Nat) : Int) := Int.emod_nonneg _ (by decide)
    apply Int.ofNat.inj
    show (((i % ((2 ^ 64 : Nat) : Int)).toNat % 2 ^ k : Nat) : Int) = ((i % ((2 ^ k : Nat) : Int)).toNat : Int)
    rw [Int.natCast_emod, Int.toNat_of_nonneg h3, Int.toNat_of_nonneg (Int.emod_nonneg _ (by omega)), Int.emod_emod_of_dvd _ hd]
  have h4 : (0 : Int) ≤ i % ((2 ^ k : Nat) : Int) := Int.emod_nonneg _ (by have := Nat.two_pow_pos k; omega)
  have h5 : i % ((2 ^ k : Nat) : Int) < (2 ^ k : Nat) := Int.emod_lt_of_pos _ (by have := Nat.two_pow_pos k; omega)
  have h6 : (2 ^ k : Nat) ≤ 2 ^ 62 := Nat.pow_le_pow_right (by decide) (by omega)
  have h7 : Op.intBits .and .i64 i ((2 ^ k - 1 : Nat) : Int) = (pure (.int .i64 (i % ((2 ^ k : Nat) : Int))) : Sem Value) := by
    show (pure (.int .i64 (IntKind.i64.wrap ((BitVec.ofInt 64 i &&& BitVec.ofInt 64 ((2 ^ k - 1 : Nat) : Int)).toNat : Int))) : Sem Value) = _
    rw [h1, h2, Int.toNat_of_nonneg h4, wrap_id (by omega) (by omega)]
  simp only [binOp, ne_eq, not_true_eq_false, if_false, h7, Sem.run_pure]

theorem bytesStr {s d el ty : TypeId} {x : Operand} {p : Option Addr} {m c : Nat} {xs : List (BitVec 8)} (hs : ∀ w, (underlying s).run P w = .ok (.slice el) w) (hd : ∀ w, (underlying d).run P w = .ok .string w) (he8 : ∀ w, (underlying el).run P w = .ok (.int .u8) w)
    (hx : ev e x = some (.slice p m c)) (hr : RdP B E L p (xs.map U8)) (hl : xs.length = m := by first | rfl | simp) : VOp P n e B E L (.convert s d x) ty (.string (bstr xs)) := fun a w _ _ _ _ he hw => by
  have hc : (convert s d (.slice p m c)).run P w = .ok (.string (bstr xs)) w := by
    unfold convert
    cases p with
    | none =>
      obtain rfl : xs = [] := by
        cases xs with
        | nil => rfl
        | cons u us => exact absurd (hr w hw 0 _ rfl).1 (by simp)
      simp [hs, hd, he8, Conv.bytesToString]
      rfl
    | some ad =>
      have hlo : (loadCells ad m).run P w = .ok ((xs.map fun x => (x.toNat : Int)).map (Value.int .u8)).toArray w := by
        have := run_loadCells_list (P := P) w ad (xs.map U8) (W.rd_cells hr rfl hw)
        rw [List.length_map, hl] at this
        rw [this, List.map_map]; rfl
      have h1 := run_bytesToString (P := P) w ad m c _ hlo
      have h2 : ∀ (ys : List (BitVec 8)) (acc : ByteArray), (ys.map fun x => (x.toNat : Int)).foldl (fun r n => r.push (UInt8.ofNat n.toNat)) acc = ⟨acc.data ++ (ys.map UInt8.ofBitVec).toArray⟩ := by
        intro ys
        induction ys with
        | nil => intro acc; simp
        | cons y ys ih =>
          intro acc
          have h8 : UInt8.ofNat ((y.toNat : Int)).toNat = UInt8.ofBitVec y := by
            rw [Int.toNat_natCast]
            apply UInt8.toNat_inj.1
            simp
          rw [List.map_cons, List.foldl_cons, ih, h8]
          simp [ByteArray.push]
      rw [h2] at h1
      simp only [Sem.run_bind, hs, hd, he8, Result.andThen_ok]
      rw [h1]
      have h3 : (⟨ByteArray.empty.data ++ (xs.map UInt8.ofBitVec).toArray⟩ : ByteArray) = bstr xs := by
        show (⟨#[] ++ (xs.map UInt8.ofBitVec).toArray⟩ : ByteArray) = bstr xs
        simp [bstr]
      rw [h3]
  simp only [execOp, he.eval hx, Sem.run_bind, Sem.run_pure, hc, Result.andThen_ok]
theorem mulN {t yt ty : TypeId} {x y : Operand} {a b : Nat} (hx : ev e x = some (.int .i64 (a : Int))) (hy : ev e y = some (.int .i64 (b : Int))) (hb : a * b ≤ 9223372036854775807) :
    VOp P n e B E L (.binOp .mul t x y yt) ty (.int .i64 ((a * b : Nat) : Int)) := int2 hx hy fun w => by
  have h : IntKind.i64.wrap ((a : Int) * (b : Int)) = ((a * b : Nat) : Int) := by rw [← Int.natCast_mul]; exact wrap_id (by omega) (by omega)
  simp only [binOp, Op.intArith, ne_eq, not_true_eq_false, if_false, Sem.run_pure, h]
theorem addN {t yt ty : TypeId} {x y : Operand} {a b : Nat} (hx : ev e x = some (.int .i64 (a : Int))) (hy : ev e y = some (.int .i64 (b : Int))) (hb : a + b ≤ 9223372036854775807) :
    VOp P n e B E L (.binOp .add t x y yt) ty (.int .i64 ((a + b : Nat) : Int)) := int2 hx hy fun w => by
  have h : IntKind.i64.wrap ((a : Int) + (b : Int)) = ((a + b : Nat) : Int) := by rw [wrap_id (by omega) (by omega)]; omega
  simp only [binOp, Op.intArith, ne_eq, not_true_eq_false, if_false, Sem.run_pure, h]
theorem subN {t yt ty : TypeId} {x y : Operand} {a b : Nat} (hx : ev e x = some (.int .i64 (a : Int))) (hy : ev e y = some (.int .i64 (b : Int))) (hb : b ≤ a) (ha : a ≤ 9223372036854775807) :
    VOp P n e B E L (.binOp .sub t x y yt) ty (.int .i64 ((a - b : Nat) : Int)) := int2 hx hy fun w => by
  have h : IntKind.i64.wrap ((a : Int) - (b : Int)) = ((a - b : Nat) : Int) := by rw [wrap_id (by omega) (by omega)]; omega
  simp only [binOp, Op.intArith, ne_eq, not_true_eq_false, if_false, Sem.run_pure, h]
theorem remN {t yt ty : TypeId} {x y : Operand} {a b : Nat} (hx : ev e x = some (.int .i64 (a : Int))) (hy : ev e y = some (.int .i64 (b : Int))) (hb : 0 < b) :
    VOp P n e B E L (.binOp .rem t x y yt) ty (.int .i64 ((a % b : Nat) : Int)) := int2 hx hy fun w => by
  have hn : ¬ (b : Int) = 0 := by omega
  have h : (a : Int).tmod (b : Int) = ((a % b : Nat) : Int) := by rw [Int.tmod_eq_emod_of_nonneg (by omega), Int.natCast_emod]
  simp only [binOp, Op.intDiv, hn, ne_eq, not_true_eq_false, if_false, Sem.run_pure, h]
theorem quoN {t yt ty : TypeId} {x y : Operand} {a b : Nat} (hx : ev e x = some (.int .i64 (a : Int))) (hy : ev e y = some (.int .i64 (b : Int))) (hb : 0 < b) (ha : a ≤ 9223372036854775807) :
    VOp P n e B E L (.binOp .quo t x y yt) ty (.int .i64 ((a / b : Nat) : Int)) := int2 hx hy fun w => by
  have hn : ¬ (b : Int) = 0 := by omega
  have h : IntKind.i64.wrap ((a : Int).tdiv (b : Int)) = ((a / b : Nat) : Int) := by
    have h0 : a / b ≤ a := Nat.div_le_self _ _
    rw [Int.tdiv_eq_ediv_of_nonneg (by omega), ← Int.natCast_ediv]
    generalize a / b = q at h0
    exact wrap_id (by omega) (by omega)
  simp only [binOp, Op.intDiv, hn, ne_eq, not_true_eq_false, if_false, Sem.run_pure, h]
theorem minN {x y : Operand} {ats : Array TypeId} {ty : TypeId} {a b : Nat} (hx : ev e x = some (.int .i64 (a : Int))) (hy : ev e y = some (.int .i64 (b : Int))) :
    VOp P n e B E L (.call ⟨.builtin .min, #[x, y], ats⟩) ty (.int .i64 ((Nat.min a b : Nat) : Int)) := min hx hy (by show _ = ((Min.min a b : Nat) : Int); split <;> omega)
theorem maxN {x y : Operand} {ats : Array TypeId} {ty : TypeId} {a b : Nat} (hx : ev e x = some (.int .i64 (a : Int))) (hy : ev e y = some (.int .i64 (b : Int))) :
    VOp P n e B E L (.call ⟨.builtin .max, #[x, y], ats⟩) ty (.int .i64 ((Nat.max a b : Nat) : Int)) := max hx hy (by show _ = ((Max.max a b : Nat) : Int); split <;> omega)
theorem eqlNil {t el yt ty : TypeId} {x y : Operand} {p : Option Addr} {m c : Nat} (ht : ∀ w, (underlying t).run P w = .ok (.slice el) w) (hx : ev e x = some (.slice p m c)) (hy : ev e y = some (.slice none 0 0)) :
    VOp P n e B E L (.binOp .eql t x y yt) ty (.bool p.isNone) := fun a w _ _ _ _ he _ => by
  have h1 : ∀ d, (Op.equalIn (d + 1) t (.slice p m c) (.slice none 0 0)).run P w = .ok p.isNone w := fun d => by
    unfold Op.equalIn
    cases p <;> simp [ht]
  have h2 : (binOp .eql t (.slice p m c) (.slice none 0 0)).run P w = .ok (.bool p.isNone) w := by
    show ((do pure (Value.bool (← Op.equalIn (9999 + 1) t (.slice p m c) (.slice none 0 0)))) : Sem Value).run P w = _
    simp only [Sem.run_bind, Sem.run_pure, h1, Result.andThen_ok]
  have h3 : (eqGuard .eql t x y (.slice p m c) (.slice none 0 0)).run P w = .ok () w := by simp [eqGuard]
  simp only [execOp, he.eval hx, he.eval hy, Sem.run_bind, Sem.run_pure, h2, h3, Result.andThen_ok]
theorem remT {t yt ty : TypeId} {x y : Operand} {i j : Int} (hx : ev e x = some (.int .i64 i)) (hy : ev e y = some (.int .i64 j)) (hj : j ≠ 0) :
    VOp P n e B E L (.binOp .rem t x y yt) ty (.int .i64 (i.tmod j)) := int2 hx hy fun w => by
  simp [binOp, Op.intDiv, hj]
/-- A slice of one's own slice. -/
theorem sliceO {t el ty : TypeId} {x : Operand} {lo hi : Option Operand} {vl vh : Option Value} {m c l h g o o' m' c' : Nat} (ht : ∀ w, (underlying t).run P w = .ok (.slice el) w) (hs : ∀ w, (sizeOf el).run P w = .ok 1 w)
    (hx : ev e x = some (.slice (some ⟨g, o, none⟩) m c)) (hvl : evo e lo = some vl) (hvh : evo e hi = some vh) (hl : bnd vl 0 l) (hh : bnd vh m h) (h1 : l ≤ h) (h2 : h ≤ c) (hne : l < c ∨ l = 0) (ho : o + l = o') (hm : h - l = m') (hc : c - l = c') :
    VOp P n e B E L (.slice t x lo hi none) ty (.slice (some ⟨g, o', none⟩) m' c') := by
  have := sliceS (P := P) (n := n) (B := B) (E := E) (L := L) (ty := ty) ht hs hx hvl hvh hl hh h1 h2
  have h3 : (if c = l then (some ⟨g, o, none⟩ : Option Addr) else (some ⟨g, o, none⟩ : Option Addr).map (·.add l)) = some ⟨g, o', none⟩ := by
    have h4 := at_own g o l
    simp only [at_, Option.getD_some] at h4
    subst ho
    split
    · rcases hne with hne | hne
      · omega
      · rw [hne]; rfl
    · simp only [Option.map_some, h4]
  rw [h3, hm, hc] at this
  exact this
end V
theorem Hp.own1 {w : World} {g : Nat} {ty : TypeId} {cs : List Value} (h : w.heap[g]? = some (.cells cs.toArray ty (0, 0))) : Hp w [g] [⟨g, ty, cs⟩] w :=
  ⟨rfl, rfl, rfl, Nat.le_refl _, (fun _ _ _ => rfl), (fun x hx => by
    obtain rfl : x = ⟨g, ty, cs⟩ := by simpa using hx
    exact ⟨h, .inl (by simp)⟩), by simp⟩
namespace W
/-- A call whose callee turns one block. -/
theorem callM {f : FuncId} {args : Array Operand} {ats : Array TypeId} {ty : TypeId} {d : Nat} {vs : List Value} {v : Value} {x y : Ent} (hx : ∀ a, EnvOK n e a → args.map a.eval = vs.toArray)
    (hf : ∀ xs w, (callFunc f xs).run P w = .ok (.enter f xs) w) (hd : Nat.blt d n = true) (hu : Upd x y L L') (hg : y.g = x.g)
    (hc : ∀ w, Hp B E L w → w.heap[x.g]? = some (.cells x.cells.toArray x.ty (0, 0)) → Calls P f vs.toArray w fun r w' => r = .returned v ∧ Hp w [x.g] [y] w')
    (h : Tr n ((d, v) :: e) B E L' K) : WOp P n e B E L Q (some d) (.call ⟨.value (.func f), args, ats⟩) ty K :=
  W.callQ hx hf hd fun w hw => (hc w hw (hw.blk _ hu.mem).1).mono fun _ _ ⟨h1, h2⟩ => ⟨_, _, h1, by simpa using hw.callW (N := []) hu hg (by simpa using h2) (by simp), h⟩
theorem fill_enum (vs : List Value) (hv : ∀ v ∈ vs, v.cells = #[v]) : ∀ (pre post : List Value), post.length = vs.length →
    Instr.fill (fun i => some (i * 1, 1)) (pre ++ post).toArray ((List.range' pre.length vs.length).zip vs) = some (pre ++ vs).toArray := by
  induction vs with
  | nil =>
    intro pre post hp
    obtain rfl : post = [] := List.eq_nil_of_length_eq_zero hp
    simp [Instr.fill]
  | cons v vs ih =>
    intro pre post hp
    obtain ⟨q, post, rfl⟩ : ∃ q r, post = q :: r := by
      cases post with
      | nil => simp at hp
      | cons q r => exact ⟨q, r, rfl⟩
    have hc := hv v (by simp)
    rw [List.length_cons, List.range'_succ, List.zip_cons_cons]
    have hif : ¬ (v.cells.size ≠ 1 ∨ pre.length * 1 + v.cells.size > (pre ++ q :: post).toArray.size) := by rw [hc]; simp
    have h1 : (v.cells.zipIdx.foldl (fun cs (c, j) => cs.setIfInBounds (pre.length * 1 + j) c) (pre ++ q :: post).toArray) = ((pre ++ [v]) ++ post).toArray := by
      rw [hc]
      show (pre ++ q :: post).toArray.setIfInBounds (pre.length * 1 + 0) v = _
      rw [List.setIfInBounds_toArray, Nat.mul_one, Nat.add_zero]
      simp
    simp only [Instr.fill]
    rw [if_neg (by simpa using hif), h1]
    have := ih (fun v hv' => hv v (by simp [hv'])) (pre ++ [v]) post (by simpa using hp)
    simpa using this
/-- A slice written out. -/
theorem build {sT el : TypeId} {z : Value} {bytes : Nat} (T : ElemT P sT el z bytes) {ty : TypeId} {parts : Array (Nat × Operand)} {vs : List Value} {len d : Nat}
    (hx : ∀ a, EnvOK n e a → parts.map (fun (i, x) => (i, a.eval x)) = ((List.range' 0 vs.length).zip vs).toArray) (hl : vs.length = len) (hv : ∀ v ∈ vs, v.cells = #[v]) (hlen : len ≤ 1000) (hd : Nat.blt d n = true)
    (h : ∀ g, Tr n ((d, .slice (some ⟨g, 0, none⟩) len len) :: e) B E (⟨g, el, vs⟩ :: L) K) : WOp P n e B E L Q (some d) (.buildSlice sT len parts) ty K :=
  W.buildSlice (cs := vs) hx (fun w => by
    obtain ⟨i, h1, h2, h3, h4⟩ := T.info
    have hz : (zeroValue el).run P w = .ok z w := by simp [zeroValue, typeInfo, h1, h2]
    have hf := fill_enum vs hv [] (List.replicate len z) (by simp [hl])
    simp only [List.nil_append, List.length_nil] at hf
    have hr : ((Array.range len).map (fun k => #[z][k % #[z].size]!)) = (List.replicate len z).toArray := by
      apply Array.ext
      · simp
      · intro k h1 h2; simp [Nat.mod_one]
    have hn : ¬ (len * 1 > 2 ^ 24) := by omega
    unfold Instr.buildSlice
    simp only [Sem.run_bind, T.run, T.size, Result.andThen_ok]
    rw [if_neg hn]
    by_cases h0 : len = 0
    · subst h0
      obtain rfl : vs = [] := List.eq_nil_of_length_eq_zero hl
      simp [Instr.fill, newRow, Array.range_zero']
    · rw [Nat.mul_one, if_neg h0]
      simp only [Nat.mul_one] at hf
      simp only [Sem.run_bind, Sem.run_pure, hz, Result.andThen_ok, T.zc, Nat.mul_one]
      rw [hr, hf]
      rfl) hd h
theorem parts0 : ∀ a, EnvOK n e a → (#[] : Array (Nat × Operand)).map (fun (i, x) => (i, a.eval x)) = ((List.range' 0 ([] : List Value).length).zip ([] : List Value)).toArray := fun _ _ => by simp
theorem parts1 {x : Operand} {v : Value} (h : ev e x = some v) : ∀ a, EnvOK n e a → #[(0, x)].map (fun (i, x) => (i, a.eval x)) = ((List.range' 0 [v].length).zip [v]).toArray := fun a he => by simp [he.eval h]
theorem parts2 {x y : Operand} {v u : Value} (h : ev e x = some v) (h2 : ev e y = some u) : ∀ a, EnvOK n e a → #[(0, x), (1, y)].map (fun (i, x) => (i, a.eval x)) = ((List.range' 0 [v, u].length).zip [v, u]).toArray := fun a he => by simp [he.eval h, he.eval h2, List.range'_succ]
theorem parts3 {x y z : Operand} {v u t : Value} (h : ev e x = some v) (h2 : ev e y = some u) (h3 : ev e z = some t) : ∀ a, EnvOK n e a → #[(0, x), (1, y), (2, z)].map (fun (i, x) => (i, a.eval x)) = ((List.range' 0 [v, u, t].length).zip [v, u, t]).toArray := fun a he => by simp [he.eval h, he.eval h2, he.eval h3, List.range'_succ]

/-- append(s, make([]T, k)...) to a slice at the head of its own block. -/
theorem appendZ {sT el tn : TypeId} {z : Value} {bytes : Nat} (T : ElemT P sT el z bytes) (htn : P.underlying tn = some (.int .i64)) (hz1 : z.oneCell' = true) {ty : TypeId} {s x : Operand} {d g m c k : Nat} {i : Int} {xs junk : List Value} {L' : Ent → List Ent}
    (hs : ev e s = some (.slice (some ⟨g, 0, none⟩) m c)) (hx : ev e x = some (.int .i64 i)) (hi : i = (k : Int))
    (hu : ∀ y, Upd ⟨g, el, xs ++ junk⟩ y L (L' y)) (hm : xs.length = m) (hc : (xs ++ junk).length = c) (hb : (m + k) * bytes ≤ 140737488355328) (hk : k * bytes ≤ 140737488355328) (h63 : m + k ≤ 9223372036854775807) (hd : Nat.blt d n = true)
    (h : ∀ g' c' junk', (xs ++ List.replicate k z ++ junk').length = c' → Tr n ((d, .slice (some ⟨g', 0, none⟩) (m + k) c') :: e) B E (L' ⟨g', el, xs ++ List.replicate k z ++ junk'⟩) K) :
    WOp P n e B E L Q (some d) (.call ⟨.builtin .append, #[s, x], #[sT, tn]⟩) ty K :=
  bi (vs := [.slice (some ⟨g, 0, none⟩) m c, .int .i64 i]) (fun a he => by simp [he.eval hs, he.eval hx]) fun a w he hw => by
    subst hi
    obtain ⟨inf, h1, h2, h3, h4⟩ := T.info
    have hblk := (hw.blk _ (hu ⟨g, el, []⟩).mem).1
    have hxs : ∀ j v, xs[j]? = some v → w.cell? ((⟨g, 0, none⟩ : Addr).add j) = some v := fun j v hj => by
      have := at_own g 0 j
      simp only [at_, Option.getD_some, Nat.zero_add] at this
      rw [this]
      exact hw.cell (hu ⟨g, el, []⟩).mem (by rw [List.getElem?_append_left (List.getElem?_eq_some_iff.1 hj).1]; exact hj)
    have hwk : IntKind.i64.wrap (k : Int) = (k : Int) := V.wrap_id (by omega) (by omega)
    have hnk : ¬ (k : Int) < 0 := by omega
    have hbk : ¬ ((k : Int) * (inf.bytes : Int) > 2 ^ 48) := by
      have : ((k * bytes : Nat) : Int) ≤ 140737488355328 := by omega
      rw [Int.natCast_mul] at this
      rw [h4]; omega
    by_cases hroom : m + k ≤ c
    · have hlj : k ≤ junk.length := by simp at hc; omega
      have hst := run_storeCells_at P g (m * 1) el (List.replicate k z) 0 (xs ++ junk).toArray w hblk (by simp at hc ⊢; omega) (by intro v hv; rw [List.eq_of_mem_replicate hv]; exact hz1)
      have hnew : ((xs ++ junk).toArray.toList.take (m * 1 + 0) ++ List.replicate k z ++ (xs ++ junk).toArray.toList.drop (m * 1 + 0 + (List.replicate k z).length)) = xs ++ List.replicate k z ++ junk.drop k := by
        simp only [Nat.mul_one, Nat.add_zero, List.length_replicate]
        rw [← hm, List.take_left]
        congr 1
        rw [List.drop_append, List.drop_eq_nil_of_le (by omega)]
        simp
      rw [hnew] at hst
      have hzv : (zeroValue el).run P w = .ok z w := by simp [zeroValue, typeInfo, h1, h2]
      have hrun : (Builtin.append_ #[sT, tn] ty #[.slice (some ⟨g, 0, none⟩) m c, .int .i64 (k : Int)]).run P w = .ok (.slice (some ⟨g, 0, none⟩) (m + k) c) (w.setRow g (xs ++ List.replicate k z ++ junk.drop k).toArray) := by
        have hadd : (⟨g, 0, none⟩ : Addr).add m = ⟨g, m, none⟩ := by
          have := at_own g 0 m
          simpa only [at_, Option.getD_some, Nat.zero_add] using this
        rw [Nat.mul_one] at hst
        have hif : (do
            let zero ← zeroValue el
            pure (Builtin.zeroCells zero.cells k) : Sem (Array Value)).run P w = .ok (List.replicate k z).toArray w := by
          simp only [Sem.run_bind, hzv, Result.andThen_ok, Sem.run_pure, T.zc, zeroCells1]
        by_cases h0 : k = 0
        · subst h0
          have hw0 : IntKind.i64.wrap 0 = 0 := V.wrap_id (by omega) (by omega)
          have hr0 : m ≤ c := hroom
          simp only [List.replicate_zero, List.append_nil, List.drop_zero] at hst
          simp [Builtin.append_, run_underlying T.und, run_underlying htn, T.size, typeInfo, h1, asInt, asIntOf, hw0, hr0, hadd, hst]
        · have h0' : ¬ (k * 1 = 0) := by omega
          have hst' := hst
          simp at hst'
          simp [Builtin.append_, run_underlying T.und, run_underlying htn, T.size, typeInfo, h1, asInt, asIntOf, hwk, hnk, hroom, hadd, h0, hzv, T.zc, zeroCells1, hst']
          omega
      refine ⟨_, _, fun cs => ?_, h g c (junk.drop k) ?_ _ _ (he.put hd _) (hw.setRow (hu _))⟩
      · simp only [builtin, Sem.run_bind, Sem.run_pure, hrun, Result.andThen_ok]
      · simp at hc ⊢; omega
    · have hk0 : 0 < k := by simp at hc; omega
      have hold : (Builtin.firstCells inf.size m (.slice (some ⟨g, 0, none⟩) m c)).run P w.drew = .ok xs.toArray w.drew := by
        have := run_firstCells_some (P := P) w.drew 1 m ⟨g, 0, none⟩ m c xs (by omega) (fun j v hv => hxs j v hv)
        rw [h3]; exact this
      have hrun := Go.Lib.run_append_grow_zeros (P := P) w sT tn ty el inf z .i64 .i64 T.und htn h1 h2 (some ⟨g, 0, none⟩) m c xs hold k hk0 (by omega) (by omega) (by omega) (by rw [h4]; omega) (growslice_fits (by omega) (by rw [h4]; exact hb))
      have hcells : (xs.toArray ++ Builtin.zeroCells z.cells k ++ Builtin.zeroCells z.cells (grownCap w (m + k) c el - (m + k))) = (xs ++ List.replicate k z ++ List.replicate (grownCap w (m + k) c el - (m + k)) z).toArray := by
        rw [T.zc, zeroCells1, zeroCells1]; simp
      rw [hcells] at hrun
      refine ⟨_, w.drew.alloc (.cells (xs ++ List.replicate k z ++ List.replicate (grownCap w (m + k) c el - (m + k)) z).toArray el), fun cs => ?_, h w.heap.size (grownCap w (m + k) c el) (List.replicate (grownCap w (m + k) c el - (m + k)) z) ?_ _ _ (he.put hd _) ?_⟩
      · simp only [builtin, Sem.run_bind, Sem.run_pure, hrun, Result.andThen_ok]
      · have := grownCap_ge w (m + k) c el
        simp at hc ⊢; omega
      · exact (hw.drawn (w.drawn + 1)).upd (w := w.drew) (hu _) rfl rfl rfl (by simp) (fun k hk _ => heap_alloc_old w.drew _ hk) (heap_alloc_new w.drew _) (.inr (Nat.le_refl _))
/-- append(nil, make([]T, k)...). -/
theorem appendNilZ {sT el tn : TypeId} {z : Value} {bytes : Nat} (T : ElemT P sT el z bytes) (htn : P.underlying tn = some (.int .i64)) {ty : TypeId} {s x : Operand} {d k : Nat} {i : Int}
    (hs : ev e s = some (.slice none 0 0)) (hx : ev e x = some (.int .i64 i)) (hi : i = (k : Int)) (hk0 : 0 < k) (hk : k * bytes ≤ 140737488355328) (h63 : k ≤ 9223372036854775807) (hd : Nat.blt d n = true)
    (h : ∀ g' c' junk', (List.replicate k z ++ junk').length = c' → Tr n ((d, .slice (some ⟨g', 0, none⟩) k c') :: e) B E (⟨g', el, List.replicate k z ++ junk'⟩ :: L) K) :
    WOp P n e B E L Q (some d) (.call ⟨.builtin .append, #[s, x], #[sT, tn]⟩) ty K :=
  bi (vs := [.slice none 0 0, .int .i64 i]) (fun a he => by simp [he.eval hs, he.eval hx]) fun a w he hw => by
    subst hi
    obtain ⟨inf, h1, h2, h3, h4⟩ := T.info
    have hrun := Go.Lib.run_append_nil_zeros (P := P) w sT tn ty el inf z .i64 .i64 T.und htn h1 h2 k hk0 (by omega) (by omega) (by rw [h4]; omega)
    have hcells : (Builtin.zeroCells z.cells k ++ Builtin.zeroCells z.cells (grownCap w k 0 el - k)) = (List.replicate k z ++ List.replicate (grownCap w k 0 el - k) z).toArray := by
      rw [T.zc, zeroCells1, zeroCells1]; simp
    rw [hcells] at hrun
    refine ⟨_, w.drew.alloc (.cells (List.replicate k z ++ List.replicate (grownCap w k 0 el - k) z).toArray el), fun cs => ?_, h w.heap.size (grownCap w k 0 el) (List.replicate (grownCap w k 0 el - k) z) ?_ _ _ (he.put hd _) ?_⟩
    · simp only [builtin, Sem.run_bind, Sem.run_pure, hrun, Result.andThen_ok]
    · have := grownCap_ge w k 0 el
      simp; omega
    · exact Hp.alloc (w := w.drew) (hw.drawn (w.drawn + 1)) el _
/-- append(nil, x...), x not empty. -/
theorem appendNil {sT el : TypeId} {z : Value} {bytes : Nat} (T : ElemT P sT el z bytes) {ty : TypeId} {s x : Operand} {d k c2 : Nat} {p : Option Addr} {vs : List Value}
    (hs : ev e s = some (.slice none 0 0)) (hx : ev e x = some (.slice p k c2)) (hr : RdP B E L p vs) (hk : vs.length = k) (hk0 : 0 < k) (hb : k * bytes ≤ 140737488355328) (h63 : k ≤ 9223372036854775807) (hd : Nat.blt d n = true)
    (h : ∀ g' c' junk', (vs ++ junk').length = c' → Tr n ((d, .slice (some ⟨g', 0, none⟩) k c') :: e) B E (⟨g', el, vs ++ junk'⟩ :: L) K) :
    WOp P n e B E L Q (some d) (.call ⟨.builtin .append, #[s, x], #[sT, sT]⟩) ty K :=
  bi (vs := [.slice none 0 0, .slice p k c2]) (fun a he => by simp [he.eval hs, he.eval hx]) fun a w he hw => by
    obtain ⟨inf, h1, h2, h3, h4⟩ := T.info
    obtain ⟨ad, rfl⟩ := Option.isSome_iff_exists.1 (hr.isSome hw (by omega))
    have hrun := run_append_nil (P := P) w sT ty el inf z T.und h1 h2 ad k c2 vs (by rw [h3]; omega) (rd_cells hr rfl hw) hk0 (by omega) (by rw [h4]; omega)
    have hcells : (vs.toArray ++ Builtin.zeroCells z.cells (grownCap w k 0 el - k)) = (vs ++ List.replicate (grownCap w k 0 el - k) z).toArray := by
      rw [T.zc, zeroCells1]; simp
    rw [hcells] at hrun
    refine ⟨_, w.drew.alloc (.cells (vs ++ List.replicate (grownCap w k 0 el - k) z).toArray el), fun cs => ?_, h w.heap.size (grownCap w k 0 el) (List.replicate (grownCap w k 0 el - k) z) ?_ _ _ (he.put hd _) ?_⟩
    · simp only [builtin, Sem.run_bind, Sem.run_pure, hrun, Result.andThen_ok]
    · have := grownCap_ge w k 0 el
      simp; omega
    · exact Hp.alloc (w := w.drew) (hw.drawn (w.drawn + 1)) el _
end W
end
end Go.Sym
