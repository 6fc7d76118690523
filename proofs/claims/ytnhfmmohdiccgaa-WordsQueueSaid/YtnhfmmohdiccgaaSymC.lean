/-
  Rules of the walk for unsigned numbers, told as bit vectors, and for conversions among integers. (Printed by gen_symc.py, a program of this session.)
-/
import Derived.Test.YtnhfmmohdiccgaaSymB
namespace Go.Sym

abbrev U8 (x : BitVec 8) : Value := .int .u8 (x.toNat : Int)
abbrev U32 (x : BitVec 32) : Value := .int .u32 (x.toNat : Int)
abbrev U64 (x : BitVec 64) : Value := .int .u64 (x.toNat : Int)

section
variable {P : Program} {n : Nat} {e : Env} {B : World} {E : List Nat} {L : List Ent}
namespace V
theorem emod_cast (a b : Nat) : ((a % b : Nat) : Int) = (a : Int) % (b : Int) := by simp

theorem wrap8 (z : Int) : IntKind.u8.wrap z = z % 256 := by simp [IntKind.wrap, IntKind.bits, IntKind.signed]
theorem wrapNat8 (a : Nat) : IntKind.u8.wrap (a : Int) = ((BitVec.ofNat 8 a).toNat : Int) := by rw [wrap8, BitVec.toNat_ofNat, emod_cast]; rfl
theorem wrapBV8 (x : BitVec 8) : IntKind.u8.wrap (x.toNat : Int) = (x.toNat : Int) := by
  rw [wrap8]; have := x.isLt; omega
theorem add8 {t yt ty : TypeId} {x y : Operand} {X Y : BitVec 8} (hx : ev e x = some (U8 X)) (hy : ev e y = some (U8 Y)) : VOp P n e B E L (.binOp .add t x y yt) ty (U8 (X + Y)) :=
  int2 hx hy fun w => by
    have h : IntKind.u8.wrap ((X.toNat : Int) + Y.toNat) = ((X + Y).toNat : Int) := by rw [wrap8, BitVec.toNat_add]; have := X.isLt; have := Y.isLt; omega
    simp only [binOp, Op.intArith, ne_eq, not_true_eq_false, if_false, Sem.run_pure, h]
theorem sub8 {t yt ty : TypeId} {x y : Operand} {X Y : BitVec 8} (hx : ev e x = some (U8 X)) (hy : ev e y = some (U8 Y)) : VOp P n e B E L (.binOp .sub t x y yt) ty (U8 (X - Y)) :=
  int2 hx hy fun w => by
    have h : IntKind.u8.wrap ((X.toNat : Int) - Y.toNat) = ((X - Y).toNat : Int) := by rw [wrap8, BitVec.toNat_sub]; have := X.isLt; have := Y.isLt; omega
    simp only [binOp, Op.intArith, ne_eq, not_true_eq_false, if_false, Sem.run_pure, h]
theorem mul8 {t yt ty : TypeId} {x y : Operand} {X Y : BitVec 8} (hx : ev e x = some (U8 X)) (hy : ev e y = some (U8 Y)) : VOp P n e B E L (.binOp .mul t x y yt) ty (U8 (X * Y)) :=
  int2 hx hy fun w => by
    have h : IntKind.u8.wrap ((X.toNat : Int) * Y.toNat) = ((X * Y).toNat : Int) := by rw [wrap8, BitVec.toNat_mul, emod_cast, Int.natCast_mul]; rfl
    simp only [binOp, Op.intArith, ne_eq, not_true_eq_false, if_false, Sem.run_pure, h]
theorem ofInt8 (X : BitVec 8) : BitVec.ofInt 8 (X.toNat : Int) = X := by
  rw [BitVec.ofInt_natCast]; simp
theorem bAnd8 (X Y : BitVec 8) : Op.intBits .and .u8 (X.toNat : Int) (Y.toNat : Int) = (pure (U8 (X &&& Y)) : Sem Value) := by
  show (pure (.int .u8 (IntKind.u8.wrap ((BitVec.ofInt 8 (X.toNat : Int) &&& BitVec.ofInt 8 (Y.toNat : Int)).toNat : Int))) : Sem Value) = _
  rw [ofInt8, ofInt8, wrapBV8]
theorem bOr8 (X Y : BitVec 8) : Op.intBits .or .u8 (X.toNat : Int) (Y.toNat : Int) = (pure (U8 (X ||| Y)) : Sem Value) := by
  show (pure (.int .u8 (IntKind.u8.wrap ((BitVec.ofInt 8 (X.toNat : Int) ||| BitVec.ofInt 8 (Y.toNat : Int)).toNat : Int))) : Sem Value) = _
  rw [ofInt8, ofInt8, wrapBV8]
theorem bXor8 (X Y : BitVec 8) : Op.intBits .xor .u8 (X.toNat : Int) (Y.toNat : Int) = (pure (U8 (X ^^^ Y)) : Sem Value) := by
  show (pure (.int .u8 (IntKind.u8.wrap ((BitVec.ofInt 8 (X.toNat : Int) ^^^ BitVec.ofInt 8 (Y.toNat : Int)).toNat : Int))) : Sem Value) = _
  rw [ofInt8, ofInt8, wrapBV8]
theorem bAndNot8 (X Y : BitVec 8) : Op.intBits .andNot .u8 (X.toNat : Int) (Y.toNat : Int) = (pure (U8 (X &&& ~~~Y)) : Sem Value) := by
  show (pure (.int .u8 (IntKind.u8.wrap ((BitVec.ofInt 8 (X.toNat : Int) &&& ~~~(BitVec.ofInt 8 (Y.toNat : Int))).toNat : Int))) : Sem Value) = _
  rw [ofInt8, ofInt8, wrapBV8]
theorem bCom8 (X : BitVec 8) : Op.unary .xor (U8 X) = (pure (U8 (~~~X)) : Sem Value) := by
  show (pure (.int .u8 (IntKind.u8.wrap ((BitVec.ofInt 8 255 ^^^ BitVec.ofInt 8 (X.toNat : Int)).toNat : Int))) : Sem Value) = _
  rw [ofInt8, show BitVec.ofInt 8 255 = BitVec.allOnes 8 from by decide, BitVec.allOnes_xor, wrapBV8]
theorem and8 {t yt ty : TypeId} {x y : Operand} {X Y : BitVec 8} (hx : ev e x = some (U8 X)) (hy : ev e y = some (U8 Y)) : VOp P n e B E L (.binOp .and t x y yt) ty (U8 (X &&& Y)) :=
  int2 hx hy fun w => by
    simp only [binOp, ne_eq, not_true_eq_false, if_false, bAnd8, Sem.run_pure]
theorem or8 {t yt ty : TypeId} {x y : Operand} {X Y : BitVec 8} (hx : ev e x = some (U8 X)) (hy : ev e y = some (U8 Y)) : VOp P n e B E L (.binOp .or t x y yt) ty (U8 (X ||| Y)) :=
  int2 hx hy fun w => by
    simp only [binOp, ne_eq, not_true_eq_false, if_false, bOr8, Sem.run_pure]
theorem xor8 {t yt ty : TypeId} {x y : Operand} {X Y : BitVec 8} (hx : ev e x = some (U8 X)) (hy : ev e y = some (U8 Y)) : VOp P n e B E L (.binOp .xor t x y yt) ty (U8 (X ^^^ Y)) :=
  int2 hx hy fun w => by
    simp only [binOp, ne_eq, not_true_eq_false, if_false, bXor8, Sem.run_pure]
theorem andNot8 {t yt ty : TypeId} {x y : Operand} {X Y : BitVec 8} (hx : ev e x = some (U8 X)) (hy : ev e y = some (U8 Y)) : VOp P n e B E L (.binOp .andNot t x y yt) ty (U8 (X &&& ~~~Y)) :=
  int2 hx hy fun w => by
    simp only [binOp, ne_eq, not_true_eq_false, if_false, bAndNot8, Sem.run_pure]
theorem com8 {t ty : TypeId} {x : Operand} {X : BitVec 8} (hx : ev e x = some (U8 X)) : VOp P n e B E L (.unOp .xor t x) ty (U8 (~~~X)) := fun a w _ _ _ _ he _ => by
  have h : ∀ w, (Op.unary .xor (U8 X)).run P w = .ok (U8 (~~~X)) w := fun w => by rw [bCom8]; rfl
  simp only [execOp, he.eval hx, Sem.run_bind, Sem.run_pure, h, Result.andThen_ok]
theorem neg8 {t ty : TypeId} {x : Operand} {X : BitVec 8} (hx : ev e x = some (U8 X)) : VOp P n e B E L (.unOp .neg t x) ty (U8 (-X)) := fun a w _ _ _ _ he _ => by
  have h : ∀ w, (Op.unary .neg (U8 X)).run P w = .ok (U8 (-X)) w := fun w => by
    have h : IntKind.u8.wrap (0 - (X.toNat : Int)) = ((-X).toNat : Int) := by rw [wrap8, BitVec.toNat_neg]; have := X.isLt; omega
    simp only [Op.unary, Op.intArith, Sem.run_pure, h]
  simp only [execOp, he.eval hx, Sem.run_bind, Sem.run_pure, h, Result.andThen_ok]
theorem shl8 {t yt ty : TypeId} {x y : Operand} {X : BitVec 8} {k : IntKind} {s : Nat} (hx : ev e x = some (U8 X)) (hy : ev e y = some (.int k (s : Int))) : VOp P n e B E L (.binOp .shl t x y yt) ty (U8 (X <<< s)) :=
  int2 hx hy fun w => by
    have hm : IntKind.u8.bits = 8 := rfl
    have h : IntKind.u8.wrap ((X.toNat : Int) * 2 ^ (Nat.min s 8)) = ((X <<< s).toNat : Int) := by
      rw [wrap8, BitVec.toNat_shiftLeft, emod_cast, Nat.shiftLeft_eq]
      rcases Nat.le_total s 8 with hs | hs
      · rw [show Nat.min s 8 = s from Nat.min_eq_left hs]; simp [Int.natCast_mul, Int.natCast_pow]
      · rw [show Nat.min s 8 = 8 from Nat.min_eq_right hs]
        have e1 : (2 : Nat) ^ s = 2 ^ 8 * 2 ^ (s - 8) := by rw [← Nat.pow_add]; congr 1; omega
        have e2 : X.toNat * 2 ^ s = (X.toNat * 2 ^ (s - 8)) * 2 ^ 8 := by rw [e1, Nat.mul_comm (2 ^ 8), Nat.mul_assoc]
        have e3 : ((X.toNat * 2 ^ s : Nat) : Int) % ((2 ^ 8 : Nat) : Int) = 0 := by rw [← emod_cast, e2, Nat.mul_mod_left]; rfl
        rw [e3]
        have e4 : (X.toNat : Int) * 2 ^ 8 % 256 = 0 := Int.mul_emod_left _ _
        exact e4
    have hn : ¬ ((s : Int) < 0) := by omega
    simp only [binOp, Op.shift, hn, if_false, Int.toNat_natCast, hm, Sem.run_pure]
    exact congrArg (fun z => Result.ok (Value.int IntKind.u8 z) w) h
theorem shr8 {t yt ty : TypeId} {x y : Operand} {X : BitVec 8} {k : IntKind} {s : Nat} (hx : ev e x = some (U8 X)) (hy : ev e y = some (.int k (s : Int))) : VOp P n e B E L (.binOp .shr t x y yt) ty (U8 (X >>> s)) :=
  int2 hx hy fun w => by
    have hm : IntKind.u8.bits = 8 := rfl
    have h : (X.toNat : Int).fdiv (2 ^ (Nat.min s 8)) = ((X >>> s).toNat : Int) := by
      rw [BitVec.toNat_ushiftRight, Nat.shiftRight_eq_div_pow, Int.natCast_ediv]
      rcases Nat.le_total s 8 with hs | hs
      · rw [show Nat.min s 8 = s from Nat.min_eq_left hs, Int.fdiv_eq_ediv_of_nonneg _ (by exact Int.le_of_lt (Int.pow_pos (by decide)))]; simp
      · rw [show Nat.min s 8 = 8 from Nat.min_eq_right hs, Int.fdiv_eq_ediv_of_nonneg _ (by exact Int.le_of_lt (Int.pow_pos (by decide)))]
        have hlt : X.toNat < 2 ^ s := Nat.lt_of_lt_of_le X.isLt (Nat.pow_le_pow_right (by decide) hs)
        rw [← Int.natCast_ediv, Nat.div_eq_of_lt hlt]
        have h2 : (X.toNat : Int) < 2 ^ 8 := by have := X.isLt; omega
        exact Int.ediv_eq_zero_of_lt (by omega) h2
    have hn : ¬ ((s : Int) < 0) := by omega
    simp only [binOp, Op.shift, hn, if_false, Int.toNat_natCast, hm, Sem.run_pure]
    exact congrArg (fun z => Result.ok (Value.int IntKind.u8 z) w) h

theorem wrap32 (z : Int) : IntKind.u32.wrap z = z % 4294967296 := by simp [IntKind.wrap, IntKind.bits, IntKind.signed]
theorem wrapNat32 (a : Nat) : IntKind.u32.wrap (a : Int) = ((BitVec.ofNat 32 a).toNat : Int) := by rw [wrap32, BitVec.toNat_ofNat, emod_cast]; rfl
theorem wrapBV32 (x : BitVec 32) : IntKind.u32.wrap (x.toNat : Int) = (x.toNat : Int) := by
  rw [wrap32]; have := x.isLt; omega
theorem add32 {t yt ty : TypeId} {x y : Operand} {X Y : BitVec 32} (hx : ev e x = some (U32 X)) (hy : ev e y = some (U32 Y)) : VOp P n e B E L (.binOp .add t x y yt) ty (U32 (X + Y)) :=
  int2 hx hy fun w => by
    have h : IntKind.u32.wrap ((X.toNat : Int) + Y.toNat) = ((X + Y).toNat : Int) := by rw [wrap32, BitVec.toNat_add]; have := X.isLt; have := Y.isLt; omega
    simp only [binOp, Op.intArith, ne_eq, not_true_eq_false, if_false, Sem.run_pure, h]
theorem sub32 {t yt ty : TypeId} {x y : Operand} {X Y : BitVec 32} (hx : ev e x = some (U32 X)) (hy : ev e y = some (U32 Y)) : VOp P n e B E L (.binOp .sub t x y yt) ty (U32 (X - Y)) :=
  int2 hx hy fun w => by
    have h : IntKind.u32.wrap ((X.toNat : Int) - Y.toNat) = ((X - Y).toNat : Int) := by rw [wrap32, BitVec.toNat_sub]; have := X.isLt; have := Y.isLt; omega
    simp only [binOp, Op.intArith, ne_eq, not_true_eq_false, if_false, Sem.run_pure, h]
theorem mul32 {t yt ty : TypeId} {x y : Operand} {X Y : BitVec 32} (hx : ev e x = some (U32 X)) (hy : ev e y = some (U32 Y)) : VOp P n e B E L (.binOp .mul t x y yt) ty (U32 (X * Y)) :=
  int2 hx hy fun w => by
    have h : IntKind.u32.wrap ((X.toNat : Int) * Y.toNat) = ((X * Y).toNat : Int) := by rw [wrap32, BitVec.toNat_mul, emod_cast, Int.natCast_mul]; rfl
    simp only [binOp, Op.intArith, ne_eq, not_true_eq_false, if_false, Sem.run_pure, h]
theorem ofInt32 (X : BitVec 32) : BitVec.ofInt 32 (X.toNat : Int) = X := by
  rw [BitVec.ofInt_natCast]; simp
theorem bAnd32 (X Y : BitVec 32) : Op.intBits .and .u32 (X.toNat : Int) (Y.toNat : Int) = (pure (U32 (X &&& Y)) : Sem Value) := by
  show (pure (.int .u32 (IntKind.u32.wrap ((BitVec.ofInt 32 (X.toNat : Int) &&& BitVec.ofInt 32 (Y.toNat : Int)).toNat : Int))) : Sem Value) = _
  rw [ofInt32, ofInt32, wrapBV32]
theorem bOr32 (X Y : BitVec 32) : Op.intBits .or .u32 (X.toNat : Int) (Y.toNat : Int) = (pure (U32 (X ||| Y)) : Sem Value) := by
  show (pure (.int .u32 (IntKind.u32.wrap ((BitVec.ofInt 32 (X.toNat : Int) ||| BitVec.ofInt 32 (Y.toNat : Int)).toNat : Int))) : Sem Value) = _
  rw [ofInt32, ofInt32, wrapBV32]
theorem bXor32 (X Y : BitVec 32) : Op.intBits .xor .u32 (X.toNat : Int) (Y.toNat : Int) = (pure (U32 (X ^^^ Y)) : Sem Value) := by
  show (pure (.int .u32 (IntKind.u32.wrap ((BitVec.ofInt 32 (X.toNat : Int) ^^^ BitVec.ofInt 32 (Y.toNat : Int)).toNat : Int))) : Sem Value) = _
  rw [ofInt32, ofInt32, wrapBV32]
theorem bAndNot32 (X Y : BitVec 32) : Op.intBits .andNot .u32 (X.toNat : Int) (Y.toNat : Int) = (pure (U32 (X &&& ~~~Y)) : Sem Value) := by
  show (pure (.int .u32 (IntKind.u32.wrap ((BitVec.ofInt 32 (X.toNat : Int) &&& ~~~(BitVec.ofInt 32 (Y.toNat : Int))).toNat : Int))) : Sem Value) = _
  rw [ofInt32, ofInt32, wrapBV32]
theorem bCom32 (X : BitVec 32) : Op.unary .xor (U32 X) = (pure (U32 (~~~X)) : Sem Value) := by
  show (pure (.int .u32 (IntKind.u32.wrap ((BitVec.ofInt 32 4294967295 ^^^ BitVec.ofInt 32 (X.toNat : Int)).toNat : Int))) : Sem Value) = _
  rw [ofInt32, show BitVec.ofInt 32 4294967295 = BitVec.allOnes 32 from by decide, BitVec.allOnes_xor, wrapBV32]
theorem and32 {t yt ty : TypeId} {x y : Operand} {X Y : BitVec 32} (hx : ev e x = some (U32 X)) (hy : ev e y = some (U32 Y)) : VOp P n e B E L (.binOp .and t x y yt) ty (U32 (X &&& Y)) :=
  int2 hx hy fun w => by
    simp only [binOp, ne_eq, not_true_eq_false, if_false, bAnd32, Sem.run_pure]
theorem or32 {t yt ty : TypeId} {x y : Operand} {X Y : BitVec 32} (hx : ev e x = some (U32 X)) (hy : ev e y = some (U32 Y)) : VOp P n e B E L (.binOp .or t x y yt) ty (U32 (X ||| Y)) :=
  int2 hx hy fun w => by
    simp only [binOp, ne_eq, not_true_eq_false, if_false, bOr32, Sem.run_pure]
theorem xor32 {t yt ty : TypeId} {x y : Operand} {X Y : BitVec 32} (hx : ev e x = some (U32 X)) (hy : ev e y = some (U32 Y)) : VOp P n e B E L (.binOp .xor t x y yt) ty (U32 (X ^^^ Y)) :=
  int2 hx hy fun w => by
    simp only [binOp, ne_eq, not_true_eq_false, if_false, bXor32, Sem.run_pure]
theorem andNot32 {t yt ty : TypeId} {x y : Operand} {X Y : BitVec 32} (hx : ev e x = some (U32 X)) (hy : ev e y = some (U32 Y)) : VOp P n e B E L (.binOp .andNot t x y yt) ty (U32 (X &&& ~~~Y)) :=
  int2 hx hy fun w => by
    simp only [binOp, ne_eq, not_true_eq_false, if_false, bAndNot32, Sem.run_pure]
theorem com32 {t ty : TypeId} {x : Operand} {X : BitVec 32} (hx : ev e x = some (U32 X)) : VOp P n e B E L (.unOp .xor t x) ty (U32 (~~~X)) := fun a w _ _ _ _ he _ => by
  have h : ∀ w, (Op.unary .xor (U32 X)).run P w = .ok (U32 (~~~X)) w := fun w => by rw [bCom32]; rfl
  simp only [execOp, he.eval hx, Sem.run_bind, Sem.run_pure, h, Result.andThen_ok]
theorem neg32 {t ty : TypeId} {x : Operand} {X : BitVec 32} (hx : ev e x = some (U32 X)) : VOp P n e B E L (.unOp .neg t x) ty (U32 (-X)) := fun a w _ _ _ _ he _ => by
  have h : ∀ w, (Op.unary .neg (U32 X)).run P w = .ok (U32 (-X)) w := fun w => by
    have h : IntKind.u32.wrap (0 - (X.toNat : Int)) = ((-X).toNat : Int) := by rw [wrap32, BitVec.toNat_neg]; have := X.isLt; omega
    simp only [Op.unary, Op.intArith, Sem.run_pure, h]
  simp only [execOp, he.eval hx, Sem.run_bind, Sem.run_pure, h, Result.andThen_ok]
theorem shl32 {t yt ty : TypeId} {x y : Operand} {X : BitVec 32} {k : IntKind} {s : Nat} (hx : ev e x = some (U32 X)) (hy : ev e y = some (.int k (s : Int))) : VOp P n e B E L (.binOp .shl t x y yt) ty (U32 (X <<< s)) :=
  int2 hx hy fun w => by
    have hm : IntKind.u32.bits = 32 := rfl
    have h : IntKind.u32.wrap ((X.toNat : Int) * 2 ^ (Nat.min s 32)) = ((X <<< s).toNat : Int) := by
      rw [wrap32, BitVec.toNat_shiftLeft, emod_cast, Nat.shiftLeft_eq]
      rcases Nat.le_total s 32 with hs | hs
      · rw [show Nat.min s 32 = s from Nat.min_eq_left hs]; simp [Int.natCast_mul, Int.natCast_pow]
      · rw [show Nat.min s 32 = 32 from Nat.min_eq_right hs]
        have e1 : (2 : Nat) ^ s = 2 ^ 32 * 2 ^ (s - 32) := by rw [← Nat.pow_add]; congr 1; omega
        have e2 : X.toNat * 2 ^ s = (X.toNat * 2 ^ (s - 32)) * 2 ^ 32 := by rw [e1, Nat.mul_comm (2 ^ 32), Nat.mul_assoc]
        have e3 : ((X.toNat * 2 ^ s : Nat) : Int) % ((2 ^ 32 : Nat) : Int) = 0 := by rw [← emod_cast, e2, Nat.mul_mod_left]; rfl
        rw [e3]
        have e4 : (X.toNat : Int) * 2 ^ 32 % 4294967296 = 0 := Int.mul_emod_left _ _
        exact e4
    have hn : ¬ ((s : Int) < 0) := by omega
    simp only [binOp, Op.shift, hn, if_false, Int.toNat_natCast, hm, Sem.run_pure]
    exact congrArg (fun z => Result.ok (Value.int IntKind.u32 z) w) h
theorem shr32 {t yt ty : TypeId} {x y : Operand} {X : BitVec 32} {k : IntKind} {s : Nat} (hx : ev e x = some (U32 X)) (hy : ev e y = some (.int k (s : Int))) : VOp P n e B E L (.binOp .shr t x y yt) ty (U32 (X >>> s)) :=
  int2 hx hy fun w => by
    have hm : IntKind.u32.bits = 32 := rfl
    have h : (X.toNat : Int).fdiv (2 ^ (Nat.min s 32)) = ((X >>> s).toNat : Int) := by
      rw [BitVec.toNat_ushiftRight, Nat.shiftRight_eq_div_pow, Int.natCast_ediv]
      rcases Nat.le_total s 32 with hs | hs
      · rw [show Nat.min s 32 = s from Nat.min_eq_left hs, Int.fdiv_eq_ediv_of_nonneg _ (by exact Int.le_of_lt (Int.pow_pos (by decide)))]; simp
      · rw [show Nat.min s 32 = 32 from Nat.min_eq_right hs, Int.fdiv_eq_ediv_of_nonneg _ (by exact Int.le_of_lt (Int.pow_pos (by decide)))]
        have hlt : X.toNat < 2 ^ s := Nat.lt_of_lt_of_le X.isLt (Nat.pow_le_pow_right (by decide) hs)
        rw [← Int.natCast_ediv, Nat.div_eq_of_lt hlt]
        have h2 : (X.toNat : Int) < 2 ^ 32 := by have := X.isLt; omega
        exact Int.ediv_eq_zero_of_lt (by omega) h2
    have hn : ¬ ((s : Int) < 0) := by omega
    simp only [binOp, Op.shift, hn, if_false, Int.toNat_natCast, hm, Sem.run_pure]
    exact congrArg (fun z => Result.ok (Value.int IntKind.u32 z) w) h

theorem wrap64 (z : Int) : IntKind.u64.wrap z = z % 18446744073709551616 := by simp [IntKind.wrap, IntKind.bits, IntKind.signed]
theorem wrapNat64 (a : Nat) : IntKind.u64.wrap (a : Int) = ((BitVec.ofNat 64 a).toNat : Int) := by rw [wrap64, BitVec.toNat_ofNat, emod_cast]; rfl
theorem wrapBV64 (x : BitVec 64) : IntKind.u64.wrap (x.toNat : Int) = (x.toNat : Int) := by
  rw [wrap64]; have := x.isLt; omega
theorem add64 {t yt ty : TypeId} {x y : Operand} {X Y : BitVec 64} (hx : ev e x = some (U64 X)) (hy : ev e y = some (U64 Y)) : VOp P n e B E L (.binOp .add t x y yt) ty (U64 (X + Y)) :=
  int2 hx hy fun w => by
    have h : IntKind.u64.wrap ((X.toNat : Int) + Y.toNat) = ((X + Y).toNat : Int) := by rw [wrap64, BitVec.toNat_add]; have := X.isLt; have := Y.isLt; omega
    simp only [binOp, Op.intArith, ne_eq, not_true_eq_false, if_false, Sem.run_pure, h]
theorem sub64 {t yt ty : TypeId} {x y : Operand} {X Y : BitVec 64} (hx : ev e x = some (U64 X)) (hy : ev e y = some (U64 Y)) : VOp P n e B E L (.binOp .sub t x y yt) ty (U64 (X - Y)) :=
  int2 hx hy fun w => by
    have h : IntKind.u64.wrap ((X.toNat : Int) - Y.toNat) = ((X - Y).toNat : Int) := by rw [wrap64, BitVec.toNat_sub]; have := X.isLt; have := Y.isLt; omega
    simp only [binOp, Op.intArith, ne_eq, not_true_eq_false, if_false, Sem.run_pure, h]
theorem mul64 {t yt ty : TypeId} {x y : Operand} {X Y : BitVec 64} (hx : ev e x = some (U64 X)) (hy : ev e y = some (U64 Y)) : VOp P n e B E L (.binOp .mul t x y yt) ty (U64 (X * Y)) :=
  int2 hx hy fun w => by
    have h : IntKind.u64.wrap ((X.toNat : Int) * Y.toNat) = ((X * Y).toNat : Int) := by rw [wrap64, BitVec.toNat_mul, emod_cast, Int.natCast_mul]; rfl
    simp only [binOp, Op.intArith, ne_eq, not_true_eq_false, if_false, Sem.run_pure, h]
theorem ofInt64 (X : BitVec 64) : BitVec.ofInt 64 (X.toNat : Int) = X := by
  rw [BitVec.ofInt_natCast]; simp
theorem bAnd64 (X Y : BitVec 64) : Op.intBits .and .u64 (X.toNat : Int) (Y.toNat : Int) = (pure (U64 (X &&& Y)) : Sem Value) := by
  show (pure (.int .u64 (IntKind.u64.wrap ((BitVec.ofInt 64 (X.toNat : Int) &&& BitVec.ofInt 64 (Y.toNat : Int)).toNat : Int))) : Sem Value) = _
  rw [ofInt64, ofInt64, wrapBV64]
theorem bOr64 (X Y : BitVec 64) : Op.intBits .or .u64 (X.toNat : Int) (Y.toNat : Int) = (pure (U64 (X ||| Y)) : Sem Value) := by
  show (pure (.int .u64 (IntKind.u64.wrap ((BitVec.ofInt 64 (X.toNat : Int) ||| BitVec.ofInt 64 (Y.toNat : Int)).toNat : Int))) : Sem Value) = _
  rw [ofInt64, ofInt64, wrapBV64]
theorem bXor64 (X Y : BitVec 64) : Op.intBits .xor .u64 (X.toNat : Int) (Y.toNat : Int) = (pure (U64 (X ^^^ Y)) : Sem Value) := by
  show (pure (.int .u64 (IntKind.u64.wrap ((BitVec.ofInt 64 (X.toNat : Int) ^^^ BitVec.ofInt 64 (Y.toNat : Int)).toNat : Int))) : Sem Value) = _
  rw [ofInt64, ofInt64, wrapBV64]
theorem bAndNot64 (X Y : BitVec 64) : Op.intBits .andNot .u64 (X.toNat : Int) (Y.toNat : Int) = (pure (U64 (X &&& ~~~Y)) : Sem Value) := by
  show (pure (.int .u64 (IntKind.u64.wrap ((BitVec.ofInt 64 (X.toNat : Int) &&& ~~~(BitVec.ofInt 64 (Y.toNat : Int))).toNat : Int))) : Sem Value) = _
  rw [ofInt64, ofInt64, wrapBV64]
theorem bCom64 (X : BitVec 64) : Op.unary .xor (U64 X) = (pure (U64 (~~~X)) : Sem Value) := by
  show (pure (.int .u64 (IntKind.u64.wrap ((BitVec.ofInt 64 18446744073709551615 ^^^ BitVec.ofInt 64 (X.toNat : Int)).toNat : Int))) : Sem Value) = _
  rw [ofInt64, show BitVec.ofInt 64 18446744073709551615 = BitVec.allOnes 64 from by decide, BitVec.allOnes_xor, wrapBV64]
theorem and64 {t yt ty : TypeId} {x y : Operand} {X Y : BitVec 64} (hx : ev e x = some (U64 X)) (hy : ev e y = some (U64 Y)) : VOp P n e B E L (.binOp .and t x y yt) ty (U64 (X &&& Y)) :=
  int2 hx hy fun w => by
    simp only [binOp, ne_eq, not_true_eq_false, if_false, bAnd64, Sem.run_pure]
theorem or64 {t yt ty : TypeId} {x y : Operand} {X Y : BitVec 64} (hx : ev e x = some (U64 X)) (hy : ev e y = some (U64 Y)) : VOp P n e B E L (.binOp .or t x y yt) ty (U64 (X ||| Y)) :=
  int2 hx hy fun w => by
    simp only [binOp, ne_eq, not_true_eq_false, if_false, bOr64, Sem.run_pure]
theorem xor64 {t yt ty : TypeId} {x y : Operand} {X Y : BitVec 64} (hx : ev e x = some (U64 X)) (hy : ev e y = some (U64 Y)) : VOp P n e B E L (.binOp .xor t x y yt) ty (U64 (X ^^^ Y)) :=
  int2 hx hy fun w => by
    simp only [binOp, ne_eq, not_true_eq_false, if_false, bXor64, Sem.run_pure]
theorem andNot64 {t yt ty : TypeId} {x y : Operand} {X Y : BitVec 64} (hx : ev e x = some (U64 X)) (hy : ev e y = some (U64 Y)) : VOp P n e B E L (.binOp .andNot t x y yt) ty (U64 (X &&& ~~~Y)) :=
  int2 hx hy fun w => by
    simp only [binOp, ne_eq, not_true_eq_false, if_false, bAndNot64, Sem.run_pure]
theorem com64 {t ty : TypeId} {x : Operand} {X : BitVec 64} (hx : ev e x = some (U64 X)) : VOp P n e B E L (.unOp .xor t x) ty (U64 (~~~X)) := fun a w _ _ _ _ he _ => by
  have h : ∀ w, (Op.unary .xor (U64 X)).run P w = .ok (U64 (~~~X)) w := fun w => by rw [bCom64]; rfl
  simp only [execOp, he.eval hx, Sem.run_bind, Sem.run_pure, h, Result.andThen_ok]
theorem neg64 {t ty : TypeId} {x : Operand} {X : BitVec 64} (hx : ev e x = some (U64 X)) : VOp P n e B E L (.unOp .neg t x) ty (U64 (-X)) := fun a w _ _ _ _ he _ => by
  have h : ∀ w, (Op.unary .neg (U64 X)).run P w = .ok (U64 (-X)) w := fun w => by
    have h : IntKind.u64.wrap (0 - (X.toNat : Int)) = ((-X).toNat : Int) := by rw [wrap64, BitVec.toNat_neg]; have := X.isLt; omega
    simp only [Op.unary, Op.intArith, Sem.run_pure, h]
  simp only [execOp, he.eval hx, Sem.run_bind, Sem.run_pure, h, Result.andThen_ok]
theorem shl64 {t yt ty : TypeId} {x y : Operand} {X : BitVec 64} {k : IntKind} {s : Nat} (hx : ev e x = some (U64 X)) (hy : ev e y = some (.int k (s : Int))) : VOp P n e B E L (.binOp .shl t x y yt) ty (U64 (X <<< s)) :=
  int2 hx hy fun w => by
    have hm : IntKind.u64.bits = 64 := rfl
    have h : IntKind.u64.wrap ((X.toNat : Int) * 2 ^ (Nat.min s 64)) = ((X <<< s).toNat : Int) := by
      rw [wrap64, BitVec.toNat_shiftLeft, emod_cast, Nat.shiftLeft_eq]
      rcases Nat.le_total s 64 with hs | hs
      · rw [show Nat.min s 64 = s from Nat.min_eq_left hs]; simp [Int.natCast_mul, Int.natCast_pow]
      · rw [show Nat.min s 64 = 64 from Nat.min_eq_right hs]
        have e1 : (2 : Nat) ^ s = 2 ^ 64 * 2 ^ (s - 64) := by rw [← Nat.pow_add]; congr 1; omega
        have e2 : X.toNat * 2 ^ s = (X.toNat * 2 ^ (s - 64)) * 2 ^ 64 := by rw [e1, Nat.mul_comm (2 ^ 64), Nat.mul_assoc]
        have e3 : ((X.toNat * 2 ^ s : Nat) : Int) % ((2 ^ 64 : Nat) : Int) = 0 := by rw [← emod_cast, e2, Nat.mul_mod_left]; rfl
        rw [e3]
        have e4 : (X.toNat : Int) * 2 ^ 64 % 18446744073709551616 = 0 := Int.mul_emod_left _ _
        exact e4
    have hn : ¬ ((s : Int) < 0) := by omega
    simp only [binOp, Op.shift, hn, if_false, Int.toNat_natCast, hm, Sem.run_pure]
    exact congrArg (fun z => Result.ok (Value.int IntKind.u64 z) w) h
theorem shr64 {t yt ty : TypeId} {x y : Operand} {X : BitVec 64} {k : IntKind} {s : Nat} (hx : ev e x = some (U64 X)) (hy : ev e y = some (.int k (s : Int))) : VOp P n e B E L (.binOp .shr t x y yt) ty (U64 (X >>> s)) :=
  int2 hx hy fun w => by
    have hm : IntKind.u64.bits = 64 := rfl
    have h : (X.toNat : Int).fdiv (2 ^ (Nat.min s 64)) = ((X >>> s).toNat : Int) := by
      rw [BitVec.toNat_ushiftRight, Nat.shiftRight_eq_div_pow, Int.natCast_ediv]
      rcases Nat.le_total s 64 with hs | hs
      · rw [show Nat.min s 64 = s from Nat.min_eq_left hs, Int.fdiv_eq_ediv_of_nonneg _ (by exact Int.le_of_lt (Int.pow_pos (by decide)))]; simp
      · rw [show Nat.min s 64 = 64 from Nat.min_eq_right hs, Int.fdiv_eq_ediv_of_nonneg _ (by exact Int.le_of_lt (Int.pow_pos (by decide)))]
        have hlt : X.toNat < 2 ^ s := Nat.lt_of_lt_of_le X.isLt (Nat.pow_le_pow_right (by decide) hs)
        rw [← Int.natCast_ediv, Nat.div_eq_of_lt hlt]
        have h2 : (X.toNat : Int) < 2 ^ 64 := by have := X.isLt; omega
        exact Int.ediv_eq_zero_of_lt (by omega) h2
    have hn : ¬ ((s : Int) < 0) := by omega
    simp only [binOp, Op.shift, hn, if_false, Int.toNat_natCast, hm, Sem.run_pure]
    exact congrArg (fun z => Result.ok (Value.int IntKind.u64 z) w) h

theorem quo8 {t yt ty : TypeId} {x y : Operand} {X Y : BitVec 8} (hx : ev e x = some (U8 X)) (hy : ev e y = some (U8 Y)) (h0 : Y.toNat ≠ 0) : VOp P n e B E L (.binOp .quo t x y yt) ty (U8 (X / Y)) :=
  int2 hx hy fun w => by
    have hn : ¬ (Y.toNat : Int) = 0 := by omega
    have h : IntKind.u8.wrap ((X.toNat : Int).tdiv Y.toNat) = ((X / Y).toNat : Int) := by
      rw [Int.tdiv_eq_ediv_of_nonneg (by omega), ← Int.natCast_ediv, ← BitVec.toNat_udiv, wrapBV8]
    simp only [binOp, Op.intDiv, hn, ne_eq, not_true_eq_false, if_false, Sem.run_pure, h]
theorem rem8 {t yt ty : TypeId} {x y : Operand} {X Y : BitVec 8} (hx : ev e x = some (U8 X)) (hy : ev e y = some (U8 Y)) (h0 : Y.toNat ≠ 0) : VOp P n e B E L (.binOp .rem t x y yt) ty (U8 (X % Y)) :=
  int2 hx hy fun w => by
    have hn : ¬ (Y.toNat : Int) = 0 := by omega
    have h : (X.toNat : Int).tmod Y.toNat = ((X % Y).toNat : Int) := by
      rw [Int.tmod_eq_emod_of_nonneg (by omega), ← Int.natCast_emod, ← BitVec.toNat_umod]
    simp only [binOp, Op.intDiv, hn, ne_eq, not_true_eq_false, if_false, Sem.run_pure, h]

theorem quo32 {t yt ty : TypeId} {x y : Operand} {X Y : BitVec 32} (hx : ev e x = some (U32 X)) (hy : ev e y = some (U32 Y)) (h0 : Y.toNat ≠ 0) : VOp P n e B E L (.binOp .quo t x y yt) ty (U32 (X / Y)) :=
  int2 hx hy fun w => by
    have hn : ¬ (Y.toNat : Int) = 0 := by omega
    have h : IntKind.u32.wrap ((X.toNat : Int).tdiv Y.toNat) = ((X / Y).toNat : Int) := by
      rw [Int.tdiv_eq_ediv_of_nonneg (by omega), ← Int.natCast_ediv, ← BitVec.toNat_udiv, wrapBV32]
    simp only [binOp, Op.intDiv, hn, ne_eq, not_true_eq_false, if_false, Sem.run_pure, h]
theorem rem32 {t yt ty : TypeId} {x y : Operand} {X Y : BitVec 32} (hx : ev e x = some (U32 X)) (hy : ev e y = some (U32 Y)) (h0 : Y.toNat ≠ 0) : VOp P n e B E L (.binOp .rem t x y yt) ty (U32 (X % Y)) :=
  int2 hx hy fun w => by
    have hn : ¬ (Y.toNat : Int) = 0 := by omega
    have h : (X.toNat : Int).tmod Y.toNat = ((X % Y).toNat : Int) := by
      rw [Int.tmod_eq_emod_of_nonneg (by omega), ← Int.natCast_emod, ← BitVec.toNat_umod]
    simp only [binOp, Op.intDiv, hn, ne_eq, not_true_eq_false, if_false, Sem.run_pure, h]

theorem quo64 {t yt ty : TypeId} {x y : Operand} {X Y : BitVec 64} (hx : ev e x = some (U64 X)) (hy : ev e y = some (U64 Y)) (h0 : Y.toNat ≠ 0) : VOp P n e B E L (.binOp .quo t x y yt) ty (U64 (X / Y)) :=
  int2 hx hy fun w => by
    have hn : ¬ (Y.toNat : Int) = 0 := by omega
    have h : IntKind.u64.wrap ((X.toNat : Int).tdiv Y.toNat) = ((X / Y).toNat : Int) := by
      rw [Int.tdiv_eq_ediv_of_nonneg (by omega), ← Int.natCast_ediv, ← BitVec.toNat_udiv, wrapBV64]
    simp only [binOp, Op.intDiv, hn, ne_eq, not_true_eq_false, if_false, Sem.run_pure, h]
theorem rem64 {t yt ty : TypeId} {x y : Operand} {X Y : BitVec 64} (hx : ev e x = some (U64 X)) (hy : ev e y = some (U64 Y)) (h0 : Y.toNat ≠ 0) : VOp P n e B E L (.binOp .rem t x y yt) ty (U64 (X % Y)) :=
  int2 hx hy fun w => by
    have hn : ¬ (Y.toNat : Int) = 0 := by omega
    have h : (X.toNat : Int).tmod Y.toNat = ((X % Y).toNat : Int) := by
      rw [Int.tmod_eq_emod_of_nonneg (by omega), ← Int.natCast_emod, ← BitVec.toNat_umod]
    simp only [binOp, Op.intDiv, hn, ne_eq, not_true_eq_false, if_false, Sem.run_pure, h]

theorem eql8 {t yt ty : TypeId} {x y : Operand} {X Y : BitVec 8} {b : Bool} (hx : ev e x = some (U8 X)) (hy : ev e y = some (U8 Y)) (hb : decide (X = Y) = b) : VOp P n e B E L (.binOp .eql t x y yt) ty (.bool b) :=
  eql hx hy (by rw [← hb]; congr 1; rw [eq_iff_iff]; exact ⟨fun h => BitVec.eq_of_toNat_eq (by omega), fun h => by rw [h]⟩)
theorem neq8 {t yt ty : TypeId} {x y : Operand} {X Y : BitVec 8} {b : Bool} (hx : ev e x = some (U8 X)) (hy : ev e y = some (U8 Y)) (hb : decide (¬ X = Y) = b) : VOp P n e B E L (.binOp .neq t x y yt) ty (.bool b) :=
  neq hx hy (by rw [← hb]; congr 1; rw [eq_iff_iff]; apply not_congr; exact ⟨fun h => BitVec.eq_of_toNat_eq (by omega), fun h => by rw [h]⟩)
theorem lss8 {t yt ty : TypeId} {x y : Operand} {X Y : BitVec 8} {b : Bool} (hx : ev e x = some (U8 X)) (hy : ev e y = some (U8 Y)) (hb : decide (X < Y) = b) : VOp P n e B E L (.binOp .lss t x y yt) ty (.bool b) :=
  lss hx hy (by rw [← hb]; congr 1; rw [eq_iff_iff, BitVec.lt_def]; omega)
theorem gtr8 {t yt ty : TypeId} {x y : Operand} {X Y : BitVec 8} {b : Bool} (hx : ev e x = some (U8 X)) (hy : ev e y = some (U8 Y)) (hb : decide (Y < X) = b) : VOp P n e B E L (.binOp .gtr t x y yt) ty (.bool b) :=
  gtr hx hy (by rw [← hb]; congr 1; rw [eq_iff_iff, BitVec.lt_def]; omega)

theorem eql32 {t yt ty : TypeId} {x y : Operand} {X Y : BitVec 32} {b : Bool} (hx : ev e x = some (U32 X)) (hy : ev e y = some (U32 Y)) (hb : decide (X = Y) = b) : VOp P n e B E L (.binOp .eql t x y yt) ty (.bool b) :=
  eql hx hy (by rw [← hb]; congr 1; rw [eq_iff_iff]; exact ⟨fun h => BitVec.eq_of_toNat_eq (by omega), fun h => by rw [h]⟩)
theorem neq32 {t yt ty : TypeId} {x y : Operand} {X Y : BitVec 32} {b : Bool} (hx : ev e x = some (U32 X)) (hy : ev e y = some (U32 Y)) (hb : decide (¬ X = Y) = b) : VOp P n e B E L (.binOp .neq t x y yt) ty (.bool b) :=
  neq hx hy (by rw [← hb]; congr 1; rw [eq_iff_iff]; apply not_congr; exact ⟨fun h => BitVec.eq_of_toNat_eq (by omega), fun h => by rw [h]⟩)
theorem lss32 {t yt ty : TypeId} {x y : Operand} {X Y : BitVec 32} {b : Bool} (hx : ev e x = some (U32 X)) (hy : ev e y = some (U32 Y)) (hb : decide (X < Y) = b) : VOp P n e B E L (.binOp .lss t x y yt) ty (.bool b) :=
  lss hx hy (by rw [← hb]; congr 1; rw [eq_iff_iff, BitVec.lt_def]; omega)
theorem gtr32 {t yt ty : TypeId} {x y : Operand} {X Y : BitVec 32} {b : Bool} (hx : ev e x = some (U32 X)) (hy : ev e y = some (U32 Y)) (hb : decide (Y < X) = b) : VOp P n e B E L (.binOp .gtr t x y yt) ty (.bool b) :=
  gtr hx hy (by rw [← hb]; congr 1; rw [eq_iff_iff, BitVec.lt_def]; omega)

theorem eql64 {t yt ty : TypeId} {x y : Operand} {X Y : BitVec 64} {b : Bool} (hx : ev e x = some (U64 X)) (hy : ev e y = some (U64 Y)) (hb : decide (X = Y) = b) : VOp P n e B E L (.binOp .eql t x y yt) ty (.bool b) :=
  eql hx hy (by rw [← hb]; congr 1; rw [eq_iff_iff]; exact ⟨fun h => BitVec.eq_of_toNat_eq (by omega), fun h => by rw [h]⟩)
theorem neq64 {t yt ty : TypeId} {x y : Operand} {X Y : BitVec 64} {b : Bool} (hx : ev e x = some (U64 X)) (hy : ev e y = some (U64 Y)) (hb : decide (¬ X = Y) = b) : VOp P n e B E L (.binOp .neq t x y yt) ty (.bool b) :=
  neq hx hy (by rw [← hb]; congr 1; rw [eq_iff_iff]; apply not_congr; exact ⟨fun h => BitVec.eq_of_toNat_eq (by omega), fun h => by rw [h]⟩)
theorem lss64 {t yt ty : TypeId} {x y : Operand} {X Y : BitVec 64} {b : Bool} (hx : ev e x = some (U64 X)) (hy : ev e y = some (U64 Y)) (hb : decide (X < Y) = b) : VOp P n e B E L (.binOp .lss t x y yt) ty (.bool b) :=
  lss hx hy (by rw [← hb]; congr 1; rw [eq_iff_iff, BitVec.lt_def]; omega)
theorem gtr64 {t yt ty : TypeId} {x y : Operand} {X Y : BitVec 64} {b : Bool} (hx : ev e x = some (U64 X)) (hy : ev e y = some (U64 Y)) (hb : decide (Y < X) = b) : VOp P n e B E L (.binOp .gtr t x y yt) ty (.bool b) :=
  gtr hx hy (by rw [← hb]; congr 1; rw [eq_iff_iff, BitVec.lt_def]; omega)

/-! ### Conversions -/
theorem conv {s d ty : TypeId} {x : Operand} {k k' : IntKind} {i j : Int} {ds : TypeDesc} (hs : ∀ w, (underlying s).run P w = .ok ds w) (hd : ∀ w, (underlying d).run P w = .ok (.int k) w) (hx : ev e x = some (.int k' i)) (h : k.wrap i = j) :
    VOp P n e B E L (.convert s d x) ty (.int k j) := fun a w _ _ _ _ he _ => by
  have hc : ∀ w, (convert s d (.int k' i)).run P w = .ok (.int k j) w := fun w => by
    unfold convert
    simp [hs, hd, Conv.intToInt, h]
  simp only [execOp, he.eval hx, Sem.run_bind, Sem.run_pure, hc, Result.andThen_ok]

theorem conv8_8 {s d ty : TypeId} {x : Operand} {X : BitVec 8} {ds : TypeDesc} (hs : ∀ w, (underlying s).run P w = .ok ds w) (hd : ∀ w, (underlying d).run P w = .ok (.int .u8) w) (hx : ev e x = some (U8 X)) :
    VOp P n e B E L (.convert s d x) ty (U8 (X.setWidth 8)) := conv hs hd hx (by rw [wrapNat8]; simp)
theorem conv8_32 {s d ty : TypeId} {x : Operand} {X : BitVec 8} {ds : TypeDesc} (hs : ∀ w, (underlying s).run P w = .ok ds w) (hd : ∀ w, (underlying d).run P w = .ok (.int .u32) w) (hx : ev e x = some (U8 X)) :
    VOp P n e B E L (.convert s d x) ty (U32 (X.setWidth 32)) := conv hs hd hx (by rw [wrapNat32]; simp [BitVec.toNat_setWidth])
theorem conv8_64 {s d ty : TypeId} {x : Operand} {X : BitVec 8} {ds : TypeDesc} (hs : ∀ w, (underlying s).run P w = .ok ds w) (hd : ∀ w, (underlying d).run P w = .ok (.int .u64) w) (hx : ev e x = some (U8 X)) :
    VOp P n e B E L (.convert s d x) ty (U64 (X.setWidth 64)) := conv hs hd hx (by rw [wrapNat64]; simp [BitVec.toNat_setWidth])
theorem conv32_8 {s d ty : TypeId} {x : Operand} {X : BitVec 32} {ds : TypeDesc} (hs : ∀ w, (underlying s).run P w = .ok ds w) (hd : ∀ w, (underlying d).run P w = .ok (.int .u8) w) (hx : ev e x = some (U32 X)) :
    VOp P n e B E L (.convert s d x) ty (U8 (X.setWidth 8)) := conv hs hd hx (by rw [wrapNat8]; simp [BitVec.toNat_setWidth])
theorem conv32_32 {s d ty : TypeId} {x : Operand} {X : BitVec 32} {ds : TypeDesc} (hs : ∀ w, (underlying s).run P w = .ok ds w) (hd : ∀ w, (underlying d).run P w = .ok (.int .u32) w) (hx : ev e x = some (U32 X)) :
    VOp P n e B E L (.convert s d x) ty (U32 (X.setWidth 32)) := conv hs hd hx (by rw [wrapNat32]; simp)
theorem conv32_64 {s d ty : TypeId} {x : Operand} {X : BitVec 32} {ds : TypeDesc} (hs : ∀ w, (underlying s).run P w = .ok ds w) (hd : ∀ w, (underlying d).run P w = .ok (.int .u64) w) (hx : ev e x = some (U32 X)) :
    VOp P n e B E L (.convert s d x) ty (U64 (X.setWidth 64)) := conv hs hd hx (by rw [wrapNat64]; simp [BitVec.toNat_setWidth])
theorem conv64_8 {s d ty : TypeId} {x : Operand} {X : BitVec 64} {ds : TypeDesc} (hs : ∀ w, (underlying s).run P w = .ok ds w) (hd : ∀ w, (underlying d).run P w = .ok (.int .u8) w) (hx : ev e x = some (U64 X)) :
    VOp P n e B E L (.convert s d x) ty (U8 (X.setWidth 8)) := conv hs hd hx (by rw [wrapNat8]; simp [BitVec.toNat_setWidth])
theorem conv64_32 {s d ty : TypeId} {x : Operand} {X : BitVec 64} {ds : TypeDesc} (hs : ∀ w, (underlying s).run P w = .ok ds w) (hd : ∀ w, (underlying d).run P w = .ok (.int .u32) w) (hx : ev e x = some (U64 X)) :
    VOp P n e B E L (.convert s d x) ty (U32 (X.setWidth 32)) := conv hs hd hx (by rw [wrapNat32]; simp [BitVec.toNat_setWidth])
theorem conv64_64 {s d ty : TypeId} {x : Operand} {X : BitVec 64} {ds : TypeDesc} (hs : ∀ w, (underlying s).run P w = .ok ds w) (hd : ∀ w, (underlying d).run P w = .ok (.int .u64) w) (hx : ev e x = some (U64 X)) :
    VOp P n e B E L (.convert s d x) ty (U64 (X.setWidth 64)) := conv hs hd hx (by rw [wrapNat64]; simp)
theorem convI_8 {s d ty : TypeId} {x : Operand} {i : Int} {ds : TypeDesc} (hs : ∀ w, (underlying s).run P w = .ok ds w) (hd : ∀ w, (underlying d).run P w = .ok (.int .u8) w) (hx : ev e x = some (.int .i64 i)) :
    VOp P n e B E L (.convert s d x) ty (U8 (BitVec.ofInt 8 i)) := conv hs hd hx (by rw [wrap8, BitVec.toNat_ofInt]; omega)
theorem convI_32 {s d ty : TypeId} {x : Operand} {i : Int} {ds : TypeDesc} (hs : ∀ w, (underlying s).run P w = .ok ds w) (hd : ∀ w, (underlying d).run P w = .ok (.int .u32) w) (hx : ev e x = some (.int .i64 i)) :
    VOp P n e B E L (.convert s d x) ty (U32 (BitVec.ofInt 32 i)) := conv hs hd hx (by rw [wrap32, BitVec.toNat_ofInt]; omega)
theorem convI_64 {s d ty : TypeId} {x : Operand} {i : Int} {ds : TypeDesc} (hs : ∀ w, (underlying s).run P w = .ok ds w) (hd : ∀ w, (underlying d).run P w = .ok (.int .u64) w) (hx : ev e x = some (.int .i64 i)) :
    VOp P n e B E L (.convert s d x) ty (U64 (BitVec.ofInt 64 i)) := conv hs hd hx (by rw [wrap64, BitVec.toNat_ofInt]; omega)
theorem conv8_I {s d ty : TypeId} {x : Operand} {X : BitVec 8} {ds : TypeDesc} (hs : ∀ w, (underlying s).run P w = .ok ds w) (hd : ∀ w, (underlying d).run P w = .ok (.int .i64) w) (hx : ev e x = some (U8 X)) :
    VOp P n e B E L (.convert s d x) ty (.int .i64 (X.toNat : Int)) := conv hs hd hx (by have := X.isLt; exact wrap_id (by omega) (by omega))
theorem conv32_I {s d ty : TypeId} {x : Operand} {X : BitVec 32} {ds : TypeDesc} (hs : ∀ w, (underlying s).run P w = .ok ds w) (hd : ∀ w, (underlying d).run P w = .ok (.int .i64) w) (hx : ev e x = some (U32 X)) :
    VOp P n e B E L (.convert s d x) ty (.int .i64 (X.toNat : Int)) := conv hs hd hx (by have := X.isLt; exact wrap_id (by omega) (by omega))
theorem convN_64 {s d ty : TypeId} {x : Operand} {i : Int} {ds : TypeDesc} (hs : ∀ w, (underlying s).run P w = .ok ds w) (hd : ∀ w, (underlying d).run P w = .ok (.int .u64) w) (hx : ev e x = some (.int .i64 i)) (h0 : 0 ≤ i) (h1 : i ≤ 9223372036854775807) :
    VOp P n e B E L (.convert s d x) ty (.int .u64 i) := conv hs hd hx (by rw [wrap64]; omega)
end V
end
end Go.Sym
