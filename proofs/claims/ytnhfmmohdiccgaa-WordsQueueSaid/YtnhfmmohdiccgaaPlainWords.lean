/-
  Plain laws on words and bytes: no program in sight.
-/
import Derived.Test.YtnhfmmohdiccgaaSymG
namespace Plain

theorem rotl_eq (X : BitVec 32) (k : Nat) (hk : k < 32) :
    (X <<< (BitVec.ofInt 64 (k : Int) &&& 31#64).toNat ||| X >>> (32#64 - (BitVec.ofInt 64 (k : Int) &&& 31#64)).toNat) = X.rotateLeft k := by
  have h1 : (BitVec.ofInt 64 (k : Int) &&& 31#64).toNat = k := by
    rw [BitVec.toNat_and, BitVec.ofInt_natCast, BitVec.toNat_ofNat, BitVec.toNat_ofNat]
    rw [Nat.mod_eq_of_lt (by omega : k < 2 ^ 64)]
    show k &&& (2 ^ 5 - 1) = k
    rw [Nat.and_two_pow_sub_one_eq_mod]; omega
  have h2 : (32#64 - (BitVec.ofInt 64 (k : Int) &&& 31#64)).toNat = 32 - k := by
    rw [BitVec.toNat_sub, h1]
    show (2 ^ 64 - k + 32) % 2 ^ 64 = 32 - k
    omega
  rw [h1, h2, BitVec.rotateLeft_def, Nat.mod_eq_of_lt hk]

/-- Turned to the left by whatever number. -/
def rotI (X : BitVec 32) (i : Int) : BitVec 32 := X.rotateLeft (i % 32).toNat
theorem rotI_eq (X : BitVec 32) (i : Int) (k : Nat) (hk : i % (2 ^ 5 : Nat) = (k : Int)) : rotI X i = X.rotateLeft k := by
  unfold rotI
  have : (i % 32).toNat = k := by
    have h : (i % ((2 ^ 5 : Nat) : Int)) = i % 32 := rfl
    omega
  rw [this]
end Plain
namespace Plain
/-! ### Numbers of bytes -/
def getL (l : List (BitVec 8)) : BitVec 64 := l.foldl (fun n b => n <<< 8 ||| b.setWidth 64) 0#64
theorem getL_snoc (l : List (BitVec 8)) (b : BitVec 8) : getL (l ++ [b]) = getL l <<< 8 ||| b.setWidth 64 := by simp [getL]
def ordB (big : Bool) (l : List (BitVec 8)) : List (BitVec 8) := if big then l else l.reverse
theorem ordB_len (big : Bool) (l : List (BitVec 8)) : (ordB big l).length = l.length := by cases big <;> simp [ordB]
/-- The bytes that Get takes. -/
def cutB (xs : List (BitVec 8)) (at0 size : Nat) : List (BitVec 8) := (xs.drop at0).take size
theorem cutB_len {xs : List (BitVec 8)} {at0 size : Nat} (h : at0 + size ≤ xs.length) : (cutB xs at0 size).length = size := by simp [cutB]; omega
theorem ord_T {xs : List (BitVec 8)} {at0 size k : Nat} (h : at0 + size ≤ xs.length) (hk : k < size) {b : BitVec 8} (hb : xs[at0 + k]? = some b) :
    getL ((ordB true (cutB xs at0 size)).take (k + 1)) = getL ((ordB true (cutB xs at0 size)).take k) <<< 8 ||| b.setWidth 64 := by
  have hl : k < (cutB xs at0 size).length := by rw [cutB_len h]; exact hk
  rw [ordB, if_pos rfl, List.take_succ_eq_append_getElem hl, getL_snoc]
  congr 2
  have : (cutB xs at0 size)[k]? = some b := by
    rw [cutB, List.getElem?_take, if_pos hk, List.getElem?_drop]; exact hb
  rw [List.getElem?_eq_getElem hl] at this
  exact Option.some.inj this
theorem ord_F {xs : List (BitVec 8)} {at0 size k : Nat} (h : at0 + size ≤ xs.length) (hk : k < size) {b : BitVec 8} (hb : xs[at0 + size - 1 - k]? = some b) :
    getL ((ordB false (cutB xs at0 size)).take (k + 1)) = getL ((ordB false (cutB xs at0 size)).take k) <<< 8 ||| b.setWidth 64 := by
  have hl : k < (cutB xs at0 size).reverse.length := by rw [List.length_reverse, cutB_len h]; exact hk
  rw [ordB, if_neg (by decide), List.take_succ_eq_append_getElem hl, getL_snoc]
  congr 2
  have : (cutB xs at0 size).reverse[k]? = some b := by
    rw [List.getElem?_reverse (by rw [cutB_len h]; exact hk), cutB_len h, cutB, List.getElem?_take, if_pos (by omega), List.getElem?_drop]
    rw [← hb]; congr 1; omega
  rw [List.getElem?_eq_getElem hl] at this
  exact Option.some.inj this
/-- What Get tells. -/
def getW (big : Bool) (xs : List (BitVec 8)) (at0 size : Nat) : BitVec 64 := getL (ordB big (cutB xs at0 size))
theorem getW_full {big : Bool} {xs : List (BitVec 8)} {at0 size : Nat} (h : at0 + size ≤ xs.length) : getL ((ordB big (cutB xs at0 size)).take size) = getW big xs at0 size := by
  rw [List.take_of_length_le (by rw [ordB_len, cutB_len h]; exact Nat.le_refl _)]; rfl
end Plain
namespace Plain
/-! ### Sums over bytes -/
def rep {α : Type} (f : α → α) : Nat → α → α
  | 0, x => x
  | k + 1, x => f (rep f k x)
def crcBit (x : BitVec 32) : BitVec 32 := x >>> 1 ^^^ (3988292384#32 &&& -(x &&& 1#32))
def crcByte (x : BitVec 32) (c : BitVec 8) : BitVec 32 := rep crcBit 8 (x ^^^ c.setWidth 32)
def crcL (xs : List (BitVec 8)) : BitVec 32 := xs.foldl crcByte 4294967295#32
theorem crcL_take {xs : List (BitVec 8)} {k : Nat} {b : BitVec 8} (hb : xs[k]? = some b) : crcL (xs.take (k + 1)) = crcByte (crcL (xs.take k)) b := by
  obtain ⟨h1, h2⟩ := List.getElem?_eq_some_iff.1 hb
  rw [List.take_succ_eq_append_getElem h1, crcL, List.foldl_append, h2]; rfl
/-! ### Bytes against each other -/
def xorL (xs ys : List (BitVec 8)) : List (BitVec 8) := List.zipWith (· ^^^ ·) xs ys
theorem xorL_len (xs ys : List (BitVec 8)) : (xorL xs ys).length = min xs.length ys.length := by simp [xorL]
theorem xorL_get {xs ys : List (BitVec 8)} {k : Nat} {a b : BitVec 8} (ha : xs[k]? = some a) (hb : ys[k]? = some b) : (xorL xs ys)[k]? = some (a ^^^ b) := by
  simp [xorL, List.getElem?_zipWith, ha, hb]
/-- k of them are in place. -/
def fillL (zs : List (BitVec 8)) (k : Nat) : List (BitVec 8) := zs.take k ++ List.replicate (zs.length - k) 0#8
theorem fillL_len {zs : List (BitVec 8)} {k : Nat} (hk : k ≤ zs.length) : (fillL zs k).length = zs.length := by simp [fillL]; omega
theorem fillL_zero (zs : List (BitVec 8)) : fillL zs 0 = List.replicate zs.length 0#8 := by simp [fillL]
theorem fillL_all (zs : List (BitVec 8)) : fillL zs zs.length = zs := by simp [fillL]
theorem fillL_set {zs : List (BitVec 8)} {k : Nat} {b : BitVec 8} (hb : zs[k]? = some b) : (fillL zs k).set k b = fillL zs (k + 1) := by
  obtain ⟨h1, h2⟩ := List.getElem?_eq_some_iff.1 hb
  unfold fillL
  have h3 : zs.length - k = (zs.length - (k + 1)) + 1 := by omega
  rw [List.take_succ_eq_append_getElem h1, h2, h3, List.replicate_succ]
  rw [List.set_append_right _ _ (by simp; omega)]
  have h4 : k - (zs.take k).length = 0 := by simp; omega
  rw [h4]; simp
/-! ### Sameness -/
def sameL (xs ys : List (BitVec 8)) : BitVec 8 := (xorL xs ys).foldl (· ||| ·) 0#8
theorem sameL_take {xs ys : List (BitVec 8)} {k : Nat} {a b : BitVec 8} (ha : xs[k]? = some a) (hb : ys[k]? = some b) : sameL (xs.take (k + 1)) (ys.take (k + 1)) = sameL (xs.take k) (ys.take k) ||| (a ^^^ b) := by
  obtain ⟨h1, h2⟩ := List.getElem?_eq_some_iff.1 ha
  obtain ⟨h3, h4⟩ := List.getElem?_eq_some_iff.1 hb
  unfold sameL xorL
  rw [List.take_succ_eq_append_getElem h1, List.take_succ_eq_append_getElem h3, List.zipWith_append (by simp; omega), List.foldl_append, h2, h4]
  simp
theorem or_zero {a b : BitVec 8} : a ||| b = 0#8 ↔ a = 0#8 ∧ b = 0#8 := by
  constructor
  · intro h
    constructor
    · apply BitVec.eq_of_getLsbD_eq; intro i hi
      have := congrArg (fun v => v.getLsbD i) h
      simp only [BitVec.getLsbD_or, BitVec.getLsbD_zero, Bool.or_eq_false_iff] at this
      simp [this.1]
    · apply BitVec.eq_of_getLsbD_eq; intro i hi
      have := congrArg (fun v => v.getLsbD i) h
      simp only [BitVec.getLsbD_or, BitVec.getLsbD_zero, Bool.or_eq_false_iff] at this
      simp [this.2]
  · rintro ⟨rfl, rfl⟩; rfl
theorem foldl_or (l : List (BitVec 8)) : ∀ a, l.foldl (· ||| ·) a = 0#8 ↔ a = 0#8 ∧ ∀ x ∈ l, x = 0#8 := by
  induction l with
  | nil => simp
  | cons b l ih =>
    intro a
    rw [List.foldl_cons, ih, or_zero]
    simp [and_assoc]
theorem sameL_zero {xs ys : List (BitVec 8)} (hl : xs.length = ys.length) : sameL xs ys = 0#8 ↔ xs = ys := by
  unfold sameL
  rw [foldl_or]
  simp only [true_and]
  constructor
  · intro h
    apply List.ext_getElem hl
    intro i h1 h2
    have := h (xs[i] ^^^ ys[i]) (by
      unfold xorL
      rw [List.mem_iff_getElem]
      exact ⟨i, by simp; omega, by simp⟩)
    exact BitVec.xor_eq_zero_iff.1 this
  · rintro rfl x hx
    unfold xorL at hx
    rw [List.mem_iff_getElem] at hx
    obtain ⟨i, hi, rfl⟩ := hx
    simp
end Plain
namespace Plain
/-! ### Put -/
/-- As many bytes as are put. -/
def effI (i : Int) : Nat := (if (8 : Int) < (if i < 0 then 0 else i) then 8 else (if i < 0 then 0 else i)).toNat
theorem effI_eq (i : Int) : (if (8 : Int) < (if i < 0 then 0 else i) then 8 else (if i < 0 then 0 else i)) = ((effI i : Nat) : Int) := by
  unfold effI; split <;> split <;> omega
theorem effI_le (i : Int) : effI i ≤ 8 := by unfold effI; split <;> split <;> omega
theorem effI_nat (k : Nat) (h : k ≤ 8) : effI (k : Int) = k := by unfold effI; split <;> split <;> omega
def putL (n : BitVec 64) (size : Nat) : List (BitVec 8) := (List.range size).map fun i => (n >>> (8 * i)).setWidth 8
theorem putL_len (n : BitVec 64) (size : Nat) : (putL n size).length = size := by simp [putL]
theorem putL_get (n : BitVec 64) {size k : Nat} (h : k < size) : (putL n size)[k]? = some ((n >>> (8 * k)).setWidth 8) := by simp [putL, h]
def putW (big : Bool) (n : BitVec 64) (size : Nat) : List (BitVec 8) := if big then (putL n size).reverse else putL n size
theorem putW_len (big : Bool) (n : BitVec 64) (size : Nat) : (putW big n size).length = size := by cases big <;> simp [putW, putL_len]
theorem set_mid {α : Type} (pre mid post : List α) (k i : Nat) (v : α) (hi : i = pre.length + k) (hk : k < mid.length) : (pre ++ mid ++ post).set i v = pre ++ mid.set k v ++ post := by
  subst hi
  rw [List.append_assoc, List.set_append_right _ _ (by omega), Nat.add_sub_cancel_left, List.set_append_left _ _ hk, List.append_assoc]
theorem get_mid {α : Type} (pre mid post : List α) (k i : Nat) (hi : i = pre.length + k) (hk : k < mid.length) : (pre ++ mid ++ post)[i]? = mid[k]? := by
  subst hi
  rw [List.append_assoc, List.getElem?_append_right (by omega), Nat.add_sub_cancel_left, List.getElem?_append_left hk]
/-- k pairs are swapped. -/
def RevAt {α : Type} (l : List α) (k : Nat) (l' : List α) : Prop := l'.length = l.length ∧ ∀ i, i < l.length → l'[i]? = if i < k ∨ l.length ≤ i + k then l[l.length - 1 - i]? else l[i]?
theorem RevAt.zero {α : Type} (l : List α) : RevAt l 0 l := ⟨rfl, fun i hi => by rw [if_neg (by omega)]⟩
theorem RevAt.step {α : Type} {l l' : List α} {k : Nat} (h : RevAt l k l') (hk : k + k + 1 < l.length) {a b : α} (ha : l'[l.length - 1 - k]? = some a) (hb : l'[k]? = some b) : RevAt l (k + 1) ((l'.set k a).set (l.length - 1 - k) b) := by
  obtain ⟨h1, h2⟩ := h
  refine ⟨by simp [h1], fun i hi => ?_⟩
  have hxa := h2 (l.length - 1 - k) (by omega)
  rw [if_neg (by omega), ha] at hxa
  have hxb := h2 k (by omega)
  rw [if_neg (by omega), hb] at hxb
  rw [List.getElem?_set]
  by_cases e1 : l.length - 1 - k = i
  · rw [if_pos e1, if_pos (by simp [h1]; omega)]
    subst e1
    rw [if_pos (by omega), hxb]
    congr 1; omega
  · rw [if_neg e1, List.getElem?_set]
    by_cases e2 : k = i
    · subst e2
      rw [if_pos rfl, if_pos (by omega), if_pos (by omega), hxa]
    · rw [if_neg e2, h2 i hi]
      by_cases e3 : i < k ∨ l.length ≤ i + k
      · rw [if_pos e3, if_pos (by omega)]
      · rw [if_neg e3, if_neg (by omega)]
theorem RevAt.done {α : Type} {l l' : List α} {k : Nat} (h : RevAt l k l') (hk : l.length ≤ k + k + 1) : l' = l.reverse := by
  obtain ⟨h1, h2⟩ := h
  apply List.ext_getElem?
  intro i
  by_cases hi : i < l.length
  · rw [h2 i hi, List.getElem?_reverse hi]
    by_cases e : i < k ∨ l.length ≤ i + k
    · rw [if_pos e]
    · rw [if_neg e]; congr 1; omega
  · rw [List.getElem?_eq_none (by omega), List.getElem?_eq_none (by simp; omega)]
end Plain
namespace Plain
/-! ### The references' steps -/
theorem mul_add_or (n : BitVec 64) (b : BitVec 8) : n * 256#64 + b.setWidth 64 = n <<< 8 ||| b.setWidth 64 := by
  have h1 : n * 256#64 = n <<< 8 := by
    apply BitVec.eq_of_toNat_eq
    rw [BitVec.toNat_mul, BitVec.toNat_shiftLeft, Nat.shiftLeft_eq]; rfl
  rw [h1]
  refine BitVec.add_eq_or_of_and_eq_zero _ _ ?_
  apply BitVec.eq_of_getLsbD_eq
  intro i hi
  simp only [BitVec.getLsbD_and, BitVec.getLsbD_shiftLeft, BitVec.getLsbD_setWidth, BitVec.getLsbD_zero]
  by_cases h : i < 8
  · simp [h]
  · simp [BitVec.getLsbD_of_ge b i (by omega)]
theorem or_sub_and (a b : BitVec 8) : (a ||| b) - (a &&& b) = a ^^^ b := by
  have h1 : (a ^^^ b) + (a &&& b) = a ||| b := by
    rw [BitVec.add_eq_or_of_and_eq_zero]
    · apply BitVec.eq_of_getLsbD_eq; intro i hi
      simp only [BitVec.getLsbD_or, BitVec.getLsbD_xor, BitVec.getLsbD_and]
      cases a.getLsbD i <;> cases b.getLsbD i <;> rfl
    · apply BitVec.eq_of_getLsbD_eq; intro i hi
      simp only [BitVec.getLsbD_xor, BitVec.getLsbD_and, BitVec.getLsbD_zero]
      cases a.getLsbD i <;> cases b.getLsbD i <;> rfl
  rw [← h1, BitVec.add_sub_cancel]
def rot1 (x : BitVec 32) : BitVec 32 := x * 2#32 + x / 2147483648#32
theorem rot1_eq (x : BitVec 32) : rot1 x = x.rotateLeft 1 := by
  have h1 : x * 2#32 = x <<< 1 := by
    apply BitVec.eq_of_toNat_eq
    rw [BitVec.toNat_mul, BitVec.toNat_shiftLeft, Nat.shiftLeft_eq]; rfl
  have h2 : x / 2147483648#32 = x >>> 31 := by
    apply BitVec.eq_of_toNat_eq
    rw [BitVec.toNat_udiv, BitVec.toNat_ushiftRight, Nat.shiftRight_eq_div_pow]; rfl
  rw [rot1, h1, h2, BitVec.rotateLeft_def]
  refine BitVec.add_eq_or_of_and_eq_zero _ _ ?_
  apply BitVec.eq_of_getLsbD_eq
  intro i hi
  simp only [BitVec.getLsbD_and, BitVec.getLsbD_shiftLeft, BitVec.getLsbD_ushiftRight, BitVec.getLsbD_zero]
  by_cases h : i < 1
  · simp [h]
  · simp [BitVec.getLsbD_of_ge x (31 + i) (by omega)]
theorem rotl_get (x : BitVec 32) (k i : Nat) (hk : k < 32) (hi : i < 32) : (x.rotateLeft k).getLsbD i = x.getLsbD (if k ≤ i then i - k else 32 + i - k) := by
  rw [BitVec.rotateLeft_def, Nat.mod_eq_of_lt hk]
  simp only [BitVec.getLsbD_or, BitVec.getLsbD_shiftLeft, BitVec.getLsbD_ushiftRight, hi, decide_true, Bool.true_and]
  by_cases h : k ≤ i
  · have h1 : ¬ i < k := by omega
    rw [if_pos h, BitVec.getLsbD_of_ge x (32 - k + i) (by omega)]
    simp [h1]
  · have h1 : i < k := by omega
    rw [if_neg h]
    simp [h1]
    congr 1; omega
theorem rotl_succ (x : BitVec 32) (k : Nat) (hk : k + 1 < 32) : (x.rotateLeft k).rotateLeft 1 = x.rotateLeft (k + 1) := by
  apply BitVec.eq_of_getLsbD_eq
  intro i hi
  rw [rotl_get _ 1 i (by omega) hi, rotl_get x (k + 1) i hk hi]
  by_cases h : 1 ≤ i
  · rw [if_pos h, rotl_get x k _ (by omega) (by omega)]
    congr 1; split <;> split <;> omega
  · rw [if_neg h, rotl_get x k _ (by omega) (by omega)]
    congr 1; split <;> split <;> omega
theorem rep_rot1 (x : BitVec 32) (k : Nat) (hk : k < 32) : rep rot1 k x = x.rotateLeft k := by
  induction k with
  | zero =>
    apply BitVec.eq_of_getLsbD_eq; intro i hi
    rw [rotl_get x 0 i (by omega) hi]; simp [rep]
  | succ k ih => rw [rep, ih (by omega), rot1_eq, rotl_succ x k hk]
theorem rotI_rep (x : BitVec 32) (i : Int) (k : Nat) (hk : (i % 32) = (k : Int)) : rep rot1 k x = rotI x i := by
  rw [rep_rot1 x k (by omega), rotI]
  congr 1; omega
/-- The reference's Crc of one byte, bit by bit. -/
def refBit (c : BitVec 8) (k : Nat) (x : BitVec 32) : BitVec 32 := if x &&& 1#32 = (c >>> k).setWidth 32 &&& 1#32 then x / 2#32 else x / 2#32 ^^^ 3988292384#32
def refBits (c : BitVec 8) (x : BitVec 32) : Nat → BitVec 32
  | 0 => x
  | k + 1 => refBit c k (refBits c x k)
theorem and_one (z : BitVec 32) : z &&& 1#32 = 0#32 ∨ z &&& 1#32 = 1#32 := by
  have h : (z &&& 1#32).toNat = z.toNat % 2 := by
    rw [BitVec.toNat_and]; show z.toNat &&& 1 = _; exact Nat.and_one_is_mod _
  rcases Nat.mod_two_eq_zero_or_one z.toNat with h2 | h2
  · exact .inl (BitVec.eq_of_toNat_eq (by rw [h, h2]; rfl))
  · exact .inr (BitVec.eq_of_toNat_eq (by rw [h, h2]; rfl))
theorem div2 (x : BitVec 32) : x / 2#32 = x >>> 1 := by
  apply BitVec.eq_of_toNat_eq
  rw [BitVec.toNat_udiv, BitVec.toNat_ushiftRight, Nat.shiftRight_eq_div_pow]; rfl
theorem crc_refBits (c : BitVec 8) (x : BitVec 32) : ∀ k, rep crcBit k (x ^^^ c.setWidth 32) = refBits c x k ^^^ (c >>> k).setWidth 32
  | 0 => by simp [rep, refBits]
  | k + 1 => by
    rw [rep, crc_refBits c x k, refBits]
    generalize refBits c x k = y
    have hs : ((c >>> k).setWidth 32) >>> 1 = (c >>> (k + 1)).setWidth 32 := by
      apply BitVec.eq_of_getLsbD_eq; intro i hi
      simp only [BitVec.getLsbD_ushiftRight, BitVec.getLsbD_setWidth]
      by_cases h : 1 + i < 32
      · simp only [h, hi, decide_true, Bool.true_and]; congr 1; omega
      · have h2 : c.getLsbD (k + 1 + i) = false := BitVec.getLsbD_of_ge _ _ (by omega)
        simp [h, h2]
    unfold crcBit refBit
    have hx : (y ^^^ (c >>> k).setWidth 32) >>> 1 = y >>> 1 ^^^ (c >>> (k + 1)).setWidth 32 := by rw [← hs]; apply BitVec.eq_of_getLsbD_eq; intro i hi; simp
    have ha : (y ^^^ (c >>> k).setWidth 32) &&& 1#32 = (y &&& 1#32) ^^^ ((c >>> k).setWidth 32 &&& 1#32) := by apply BitVec.eq_of_getLsbD_eq; intro i hi; simp [Bool.and_xor_distrib_right]
    rw [hx, ha, div2]
    rcases and_one y with h1 | h1 <;> rcases and_one ((c >>> k).setWidth 32) with h2 | h2 <;> rw [h1, h2]
    · simp
    · rw [if_neg (by decide)]
      have : (3988292384#32 &&& -(0#32 ^^^ 1#32)) = 3988292384#32 := by decide
      rw [this, BitVec.xor_assoc, BitVec.xor_comm ((c >>> (k + 1)).setWidth 32), ← BitVec.xor_assoc]
    · rw [if_neg (by decide)]
      have : (3988292384#32 &&& -(1#32 ^^^ 0#32)) = 3988292384#32 := by decide
      rw [this, BitVec.xor_assoc, BitVec.xor_comm ((c >>> (k + 1)).setWidth 32), ← BitVec.xor_assoc]
    · simp
theorem refBits_eight (c : BitVec 8) (x : BitVec 32) : refBits c x 8 = crcByte x c := by
  have h := crc_refBits c x 8
  have h0 : (c >>> 8).setWidth 32 = 0#32 := by
    apply BitVec.eq_of_getLsbD_eq; intro i hi
    simp [BitVec.getLsbD_of_ge c (8 + i) (by omega)]
  rw [h0] at h
  rw [crcByte, h]; simp
/-- Division by 256, over and over. -/
theorem rep_div (n : BitVec 64) : ∀ k, rep (fun x => x / 256#64) k n = n >>> (8 * k)
  | 0 => by simp [rep]
  | k + 1 => by
    rw [rep, rep_div n k]
    apply BitVec.eq_of_toNat_eq
    rw [BitVec.toNat_udiv, BitVec.toNat_ushiftRight, BitVec.toNat_ushiftRight, Nat.shiftRight_eq_div_pow, Nat.shiftRight_eq_div_pow, Nat.div_div_eq_div_mul, Nat.mul_add, Nat.pow_add]; rfl
theorem mod_byte (x : BitVec 64) : (x % 256#64).setWidth 8 = x.setWidth 8 := by
  apply BitVec.eq_of_toNat_eq
  rw [BitVec.toNat_setWidth, BitVec.toNat_setWidth, BitVec.toNat_umod]
  show x.toNat % 256 % 2 ^ 8 = x.toNat % 2 ^ 8
  omega
theorem putW_get (big : Bool) (n : BitVec 64) {size k j : Nat} (hk : k < size) (hj : j = if big then size - 1 - k else k) : (putW big n size)[k]? = some ((n >>> (8 * j)).setWidth 8) := by
  cases big with
  | true =>
    rw [putW, if_pos rfl, List.getElem?_reverse (by rw [putL_len]; exact hk), putL_len, putL_get n (by omega)]
    rw [hj]; rfl
  | false => rw [putW, if_neg (by decide), putL_get n hk, hj]; rfl
end Plain
namespace Plain
theorem not_sub (x : BitVec 32) : 4294967295#32 - x = ~~~ x := by
  apply BitVec.eq_of_toNat_eq
  rw [BitVec.toNat_sub, BitVec.toNat_not]
  show (2 ^ 32 - x.toNat + 4294967295) % 2 ^ 32 = 2 ^ 32 - 1 - x.toNat
  have := x.isLt
  omega
end Plain
namespace Plain
theorem tmod32 (i : Int) : (i.tmod 32 < 0 → i % 32 = i.tmod 32 + 32) ∧ (¬ i.tmod 32 < 0 → i % 32 = i.tmod 32) ∧ -32 < i.tmod 32 ∧ i.tmod 32 < 32 := by
  rcases Int.lt_or_le i 0 with h | h
  · obtain ⟨j, rfl⟩ : ∃ j : Int, i = -j := ⟨-i, by omega⟩
    rw [Int.neg_tmod, Int.tmod_eq_emod_of_nonneg (by omega : 0 ≤ j)]
    omega
  · rw [Int.tmod_eq_emod_of_nonneg h]
    omega
end Plain
