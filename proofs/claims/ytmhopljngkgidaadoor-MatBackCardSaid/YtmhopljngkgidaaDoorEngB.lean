/- Engine, part B: operations on numbers and truth values. -/
import Derived.Test.YtmhopljngkgidaaDoorEngD
namespace Go.Ew
open Go.RowKit Go.IntWalk
set_option linter.unusedVariables false
set_option linter.unusedSimpArgs false

/-- A word of 64 bits as a value. -/
abbrev U (x : BitVec 64) : Value := .int .u64 (x.toNat : Int)
/-- The numbers that an int holds. -/
def I64 (a : Int) : Prop := -9223372036854775808 ≤ a ∧ a ≤ 9223372036854775807

theorem w64 {a : Int} (h : I64 a) : IntKind.i64.wrap a = a := i64_in a h
theorem wrap_u64_bv (a : Int) : IntKind.u64.wrap a = ((BitVec.ofInt 64 a).toNat : Int) := by
  rw [IntKind.wrap_u64, BitVec.toNat_ofInt]
  have h1 : (0 : Int) ≤ a % 18446744073709551616 := Int.emod_nonneg _ (by decide)
  show a % 18446744073709551616 = (((a % ((2 ^ 64 : Nat) : Int)).toNat : Nat) : Int)
  rw [show ((2 ^ 64 : Nat) : Int) = 18446744073709551616 from rfl, Int.toNat_of_nonneg h1]
theorem toNat_i64 (x : BitVec 64) : (x.toNat : Int) < 18446744073709551616 := by have := x.isLt; omega
theorem ofInt_toNat (x : BitVec 64) : BitVec.ofInt 64 (x.toNat : Int) = x := by
  apply BitVec.eq_of_toNat_eq
  rw [BitVec.toNat_ofInt]
  have := x.isLt
  omega

section
variable {P : Program} {n : Nat} {ops : Array Oper} {f : Slots} {w : World} {K : Slots → World → Prop} {x y c : Operand} {d : Nat} {ty T T2 : TypeId} {ps : String} {af : Array Edge} {v v2 : Value} {a b : Int} {p q : Bool} {kk kk2 : IntKind} {s t : BitVec 64}

theorem mv (ox : okT n x = true) (hx : ev f x = v) (h : K (upd f d v) w) : SO P n ops ⟨some d, .move x, ty, ps, af, none⟩ f w K :=
  SO.value (v := v) (by simp [execOp, eval_acts ox, hx]) h
theorem asg (ox : okT n x = true) (hx : ev f x = v) (h : K (upd f d v) w) : SO P n ops ⟨some d, .assign x, ty, ps, af, none⟩ f w K :=
  SO.value (v := v) (by simp [execOp, eval_acts ox, hx]) h
theorem pickT (oc : okT n c = true) (ox : okT n x = true) (oy : okT n y = true) (hc : ev f c = .bool p) (hp : p = true) (hx : ev f x = v) (h : K (upd f d v) w) : SO P n ops ⟨some d, .pick c x y, ty, ps, af, none⟩ f w K :=
  SO.value (v := v) (by simp [execOp, asBool, eval_acts oc, eval_acts ox, eval_acts oy, hc, hp, hx]) h
theorem pickF (oc : okT n c = true) (ox : okT n x = true) (oy : okT n y = true) (hc : ev f c = .bool p) (hp : p = false) (hy : ev f y = v) (h : K (upd f d v) w) : SO P n ops ⟨some d, .pick c x y, ty, ps, af, none⟩ f w K :=
  SO.value (v := v) (by simp [execOp, asBool, eval_acts oc, eval_acts ox, eval_acts oy, hc, hp, hy]) h
theorem not_ (ox : okT n x = true) (hx : ev f x = .bool p) (h : K (upd f d (.bool (!p))) w) : SO P n ops ⟨some d, .unOp .not T x, ty, ps, af, none⟩ f w K :=
  SO.value (v := .bool (!p)) (by simp [execOp, eval_acts ox, hx, Op.unary]) h

/-- Any operator on two numbers, by its run. -/
theorem bin {op : BinOp} (ox : okT n x = true) (oy : okT n y = true) (hx : ev f x = .int kk a) (hy : ev f y = .int kk2 b) (hr : (binOp op T (.int kk a) (.int kk2 b)).run P w = .ok v w) (h : K (upd f d v) w) :
    SO P n ops ⟨some d, .binOp op T x y T2, ty, ps, af, none⟩ f w K :=
  SO.value (v := v) (by
    simp only [execOp, eval_acts ox, eval_acts oy, hx, hy]
    have hg : (eqGuard op T x y (.int kk a) (.int kk2 b)).run P w = .ok () w := by unfold eqGuard; split <;> rfl
    simp [hg, hr, Result.andThen]) h

theorem add (ox : okT n x = true) (oy : okT n y = true) (hx : ev f x = .int .i64 a) (hy : ev f y = .int .i64 b) (hi : I64 (a + b)) (h : K (upd f d (.int .i64 (a + b))) w) : SO P n ops ⟨some d, .binOp .add T x y T2, ty, ps, af, none⟩ f w K :=
  bin ox oy hx hy (by simp [binOp, Op.intArith, w64 hi]) h
theorem sub (ox : okT n x = true) (oy : okT n y = true) (hx : ev f x = .int .i64 a) (hy : ev f y = .int .i64 b) (hi : I64 (a - b)) (h : K (upd f d (.int .i64 (a - b))) w) : SO P n ops ⟨some d, .binOp .sub T x y T2, ty, ps, af, none⟩ f w K :=
  bin ox oy hx hy (by simp [binOp, Op.intArith, w64 hi]) h
theorem mul (ox : okT n x = true) (oy : okT n y = true) (hx : ev f x = .int .i64 a) (hy : ev f y = .int .i64 b) (hi : I64 (a * b)) (h : K (upd f d (.int .i64 (a * b))) w) : SO P n ops ⟨some d, .binOp .mul T x y T2, ty, ps, af, none⟩ f w K :=
  bin ox oy hx hy (by simp [binOp, Op.intArith, w64 hi]) h
theorem quo (ox : okT n x = true) (oy : okT n y = true) (hx : ev f x = .int .i64 a) (hy : ev f y = .int .i64 b) (hi : 0 ≤ a ∧ a ≤ 9223372036854775807 ∧ 1 ≤ b) (h : K (upd f d (.int .i64 (a / b))) w) : SO P n ops ⟨some d, .binOp .quo T x y T2, ty, ps, af, none⟩ f w K :=
  bin ox oy hx hy (by
    have hb : b ≠ 0 := by omega
    simp [binOp, Op.intDiv, hb]; exact i64_quo a b hi) h
theorem rem (ox : okT n x = true) (oy : okT n y = true) (hx : ev f x = .int kk a) (hy : ev f y = .int kk b) (hi : 0 ≤ a ∧ 1 ≤ b) (h : K (upd f d (.int kk (a % b))) w) : SO P n ops ⟨some d, .binOp .rem T x y T2, ty, ps, af, none⟩ f w K :=
  bin ox oy hx hy (by
    have hb : b ≠ 0 := by omega
    simp [binOp, Op.intDiv, hb, rem_in a b hi.1]) h
theorem lss (ox : okT n x = true) (oy : okT n y = true) (hx : ev f x = .int kk a) (hy : ev f y = .int kk b) (h : K (upd f d (.bool (decide (a < b)))) w) : SO P n ops ⟨some d, .binOp .lss T x y T2, ty, ps, af, none⟩ f w K :=
  bin ox oy hx hy (by simp [binOp, Op.intCmp]) h
theorem leq (ox : okT n x = true) (oy : okT n y = true) (hx : ev f x = .int kk a) (hy : ev f y = .int kk b) (h : K (upd f d (.bool (decide (a ≤ b)))) w) : SO P n ops ⟨some d, .binOp .leq T x y T2, ty, ps, af, none⟩ f w K :=
  bin ox oy hx hy (by simp [binOp, Op.intCmp]) h
theorem gtr (ox : okT n x = true) (oy : okT n y = true) (hx : ev f x = .int kk a) (hy : ev f y = .int kk b) (h : K (upd f d (.bool (decide (b < a)))) w) : SO P n ops ⟨some d, .binOp .gtr T x y T2, ty, ps, af, none⟩ f w K :=
  bin ox oy hx hy (by simp [binOp, Op.intCmp]) h
theorem geq (ox : okT n x = true) (oy : okT n y = true) (hx : ev f x = .int kk a) (hy : ev f y = .int kk b) (h : K (upd f d (.bool (decide (b ≤ a)))) w) : SO P n ops ⟨some d, .binOp .geq T x y T2, ty, ps, af, none⟩ f w K :=
  bin ox oy hx hy (by simp [binOp, Op.intCmp]) h
theorem eql (ox : okT n x = true) (oy : okT n y = true) (hx : ev f x = .int kk a) (hy : ev f y = .int kk b) (h : K (upd f d (.bool (decide (a = b)))) w) : SO P n ops ⟨some d, .binOp .eql T x y T2, ty, ps, af, none⟩ f w K :=
  bin ox oy hx hy (by simp [binOp, Op.intCmp]; rfl) h
theorem neq (ox : okT n x = true) (oy : okT n y = true) (hx : ev f x = .int kk a) (hy : ev f y = .int kk b) (h : K (upd f d (.bool (!decide (a = b)))) w) : SO P n ops ⟨some d, .binOp .neq T x y T2, ty, ps, af, none⟩ f w K :=
  bin ox oy hx hy (by simp [binOp, Op.intCmp]; rfl) h
theorem shrI (ox : okT n x = true) (oy : okT n y = true) (hx : ev f x = .int .i64 a) (hy : ev f y = .int .u64 6) (h : K (upd f d (.int .i64 (a / 64))) w) : SO P n ops ⟨some d, .binOp .shr T x y T2, ty, ps, af, none⟩ f w K :=
  bin ox oy hx hy (by
    simp [binOp, Op.shift]
    show a.fdiv (2 ^ min 6 64) = _
    rw [show (2 : Int) ^ min 6 64 = 64 from rfl, Int.fdiv_eq_ediv_of_nonneg _ (by decide)]) h
theorem and63 (ox : okT n x = true) (oy : okT n y = true) (hx : ev f x = .int .i64 a) (hy : ev f y = .int .i64 63) (h : K (upd f d (.int .i64 (a % 64))) w) : SO P n ops ⟨some d, .binOp .and T x y T2, ty, ps, af, none⟩ f w K :=
  bin ox oy hx hy (by
    simp only [binOp, Op.intBits, ne_eq, not_true, if_false, Sem.run_pure]
    have h1 : ((BitVec.ofInt IntKind.i64.bits a &&& BitVec.ofInt IntKind.i64.bits 63).toNat : Int) = a % 64 := by
      show ((BitVec.ofInt 64 a &&& BitVec.ofInt 64 63).toNat : Int) = a % 64
      rw [BitVec.toNat_and, BitVec.toNat_ofInt, show (BitVec.ofInt 64 63).toNat = 2 ^ 6 - 1 from rfl, Nat.and_two_pow_sub_one_eq_mod]
      have : (0 : Int) ≤ a % ((2 ^ 64 : Nat) : Int) := Int.emod_nonneg _ (by decide)
      omega
    rw [h1, w64 (by unfold I64; omega)]) h

theorem and127 (ox : okT n x = true) (oy : okT n y = true) (hx : ev f x = .int .i64 a) (hy : ev f y = .int .i64 127) (h : K (upd f d (.int .i64 (a % 128))) w) : SO P n ops ⟨some d, .binOp .and T x y T2, ty, ps, af, none⟩ f w K :=
  bin ox oy hx hy (by
    simp only [binOp, Op.intBits, ne_eq, not_true, if_false, Sem.run_pure]
    have h1 : ((BitVec.ofInt IntKind.i64.bits a &&& BitVec.ofInt IntKind.i64.bits 127).toNat : Int) = a % 128 := by
      show ((BitVec.ofInt 64 a &&& BitVec.ofInt 64 127).toNat : Int) = a % 128
      rw [BitVec.toNat_and, BitVec.toNat_ofInt, show (BitVec.ofInt 64 127).toNat = 2 ^ 7 - 1 from rfl, Nat.and_two_pow_sub_one_eq_mod]
      have : (0 : Int) ≤ a % ((2 ^ 64 : Nat) : Int) := Int.emod_nonneg _ (by decide)
      omega
    rw [h1, w64 (by unfold I64; omega)]) h

/-! Words of 64 bits. -/
theorem run_bits (op : BinOp) (r : BitVec 64) (hop : (Op.intBits op .u64 (s.toNat : Int) (t.toNat : Int)).run P w = .ok (U r) w) : (Op.intBits op .u64 (s.toNat : Int) (t.toNat : Int)).run P w = .ok (U r) w := hop
theorem wrap_bv (r : BitVec 64) : IntKind.u64.wrap (r.toNat : Int) = (r.toNat : Int) := by rw [wrap_u64_bv, ofInt_toNat]
theorem andU (s t : BitVec 64) (ox : okT n x = true) (oy : okT n y = true) (hx : ev f x = U s) (hy : ev f y = U t) (h : K (upd f d (U (s &&& t))) w) : SO P n ops ⟨some d, .binOp .and T x y T2, ty, ps, af, none⟩ f w K :=
  bin ox oy hx hy (by
    have e1 : BitVec.ofInt IntKind.u64.bits (s.toNat : Int) = s := ofInt_toNat s
    have e2 : BitVec.ofInt IntKind.u64.bits (t.toNat : Int) = t := ofInt_toNat t
    simp only [binOp, Op.intBits, ne_eq, not_true, if_false, Sem.run_pure, e1, e2]; exact congrArg (fun z => Result.ok (Value.int .u64 z) w) (wrap_bv (s &&& t))) h
theorem orU (s t : BitVec 64) (ox : okT n x = true) (oy : okT n y = true) (hx : ev f x = U s) (hy : ev f y = U t) (h : K (upd f d (U (s ||| t))) w) : SO P n ops ⟨some d, .binOp .or T x y T2, ty, ps, af, none⟩ f w K :=
  bin ox oy hx hy (by
    have e1 : BitVec.ofInt IntKind.u64.bits (s.toNat : Int) = s := ofInt_toNat s
    have e2 : BitVec.ofInt IntKind.u64.bits (t.toNat : Int) = t := ofInt_toNat t
    simp only [binOp, Op.intBits, ne_eq, not_true, if_false, Sem.run_pure, e1, e2]; exact congrArg (fun z => Result.ok (Value.int .u64 z) w) (wrap_bv (s ||| t))) h
theorem andNotU (s t : BitVec 64) (ox : okT n x = true) (oy : okT n y = true) (hx : ev f x = U s) (hy : ev f y = U t) (h : K (upd f d (U (s &&& ~~~t))) w) : SO P n ops ⟨some d, .binOp .andNot T x y T2, ty, ps, af, none⟩ f w K :=
  bin ox oy hx hy (by
    have e1 : BitVec.ofInt IntKind.u64.bits (s.toNat : Int) = s := ofInt_toNat s
    have e2 : BitVec.ofInt IntKind.u64.bits (t.toNat : Int) = t := ofInt_toNat t
    simp only [binOp, Op.intBits, ne_eq, not_true, if_false, Sem.run_pure, e1, e2]; exact congrArg (fun z => Result.ok (Value.int .u64 z) w) (wrap_bv (s &&& ~~~t))) h
theorem addU (s t : BitVec 64) (ox : okT n x = true) (oy : okT n y = true) (hx : ev f x = U s) (hy : ev f y = U t) (h : K (upd f d (U (s + t))) w) : SO P n ops ⟨some d, .binOp .add T x y T2, ty, ps, af, none⟩ f w K :=
  bin ox oy hx hy (by
    simp only [binOp, Op.intArith, ne_eq, not_true, if_false, Sem.run_pure]
    refine congrArg (fun z => Result.ok (Value.int .u64 z) w) ?_
    rw [IntKind.wrap_u64, BitVec.toNat_add]; omega) h
theorem subU (s t : BitVec 64) (ox : okT n x = true) (oy : okT n y = true) (hx : ev f x = U s) (hy : ev f y = U t) (h : K (upd f d (U (s - t))) w) : SO P n ops ⟨some d, .binOp .sub T x y T2, ty, ps, af, none⟩ f w K :=
  bin ox oy hx hy (by
    simp only [binOp, Op.intArith, ne_eq, not_true, if_false, Sem.run_pure]
    refine congrArg (fun z => Result.ok (Value.int .u64 z) w) ?_
    have := t.isLt
    rw [IntKind.wrap_u64, BitVec.toNat_sub]; omega) h
theorem negU (s : BitVec 64) (ox : okT n x = true) (hx : ev f x = U s) (h : K (upd f d (U (-s))) w) : SO P n ops ⟨some d, .unOp .neg T x, ty, ps, af, none⟩ f w K :=
  SO.value (v := U (-s)) (by
    simp only [execOp, eval_acts ox, hx, Op.unary, Op.intArith, ne_eq, not_true, if_false]
    have e : IntKind.u64.wrap (0 - (s.toNat : Int)) = ((-s).toNat : Int) := by
      have := s.isLt
      rw [IntKind.wrap_u64, BitVec.toNat_neg]; omega
    rw [e]; simp) h
theorem mulU (s t : BitVec 64) (ox : okT n x = true) (oy : okT n y = true) (hx : ev f x = U s) (hy : ev f y = U t) (h : K (upd f d (U (s * t))) w) : SO P n ops ⟨some d, .binOp .mul T x y T2, ty, ps, af, none⟩ f w K :=
  bin ox oy hx hy (by
    simp only [binOp, Op.intArith, ne_eq, not_true, if_false, Sem.run_pure]
    refine congrArg (fun z => Result.ok (Value.int .u64 z) w) ?_
    rw [IntKind.wrap_u64, BitVec.toNat_mul]; exact (Int.natCast_emod _ _).symm) h
theorem quoU (s t : BitVec 64) (ht : t ≠ 0#64) (ox : okT n x = true) (oy : okT n y = true) (hx : ev f x = U s) (hy : ev f y = U t) (h : K (upd f d (U (s / t))) w) : SO P n ops ⟨some d, .binOp .quo T x y T2, ty, ps, af, none⟩ f w K :=
  bin ox oy hx hy (by
    have h0 : t.toNat ≠ 0 := fun h => ht (BitVec.eq_of_toNat_eq h)
    have h1 : (t.toNat : Int) ≠ 0 := by omega
    have hs := s.isLt
    simp only [binOp, Op.intDiv, ne_eq, not_true, if_false, h1, Sem.run_pure]
    refine congrArg (fun z => Result.ok (Value.int .u64 z) w) ?_
    rw [u64_quo _ _ (by omega), BitVec.toNat_udiv]; rfl) h
theorem remU (s t : BitVec 64) (ht : t ≠ 0#64) (ox : okT n x = true) (oy : okT n y = true) (hx : ev f x = U s) (hy : ev f y = U t) (h : K (upd f d (U (s % t))) w) : SO P n ops ⟨some d, .binOp .rem T x y T2, ty, ps, af, none⟩ f w K :=
  bin ox oy hx hy (by
    have h0 : t.toNat ≠ 0 := fun h => ht (BitVec.eq_of_toNat_eq h)
    have h1 : (t.toNat : Int) ≠ 0 := by omega
    simp only [binOp, Op.intDiv, ne_eq, not_true, if_false, h1, Sem.run_pure]
    refine congrArg (fun z => Result.ok (Value.int .u64 z) w) ?_
    rw [rem_in _ _ (by omega), BitVec.toNat_umod]; rfl) h
theorem shlU (s : BitVec 64) (b : Int) (hb : 0 ≤ b) (ox : okT n x = true) (oy : okT n y = true) (hx : ev f x = U s) (hy : ev f y = .int kk b) (h : K (upd f d (U (s <<< b.toNat))) w) : SO P n ops ⟨some d, .binOp .shl T x y T2, ty, ps, af, none⟩ f w K :=
  bin ox oy hx hy (by
    have h0 : ¬ b < 0 := by omega
    simp only [binOp, Op.shift, h0, if_false, Sem.run_pure]
    refine congrArg (fun z => Result.ok (Value.int .u64 z) w) ?_
    show IntKind.u64.wrap ((s.toNat : Int) * 2 ^ min b.toNat 64) = _
    rw [IntKind.wrap_u64, BitVec.toNat_shiftLeft, Nat.shiftLeft_eq]
    rcases Nat.lt_or_ge b.toNat 64 with hlt | hge
    · rw [Nat.min_eq_left (by omega)]
      simp
    · rw [Nat.min_eq_right hge]
      have e1 : s.toNat * 2 ^ b.toNat % 2 ^ 64 = 0 := by
        rw [show b.toNat = 64 + (b.toNat - 64) from by omega, Nat.pow_add, ← Nat.mul_assoc, Nat.mul_comm (s.toNat) _, Nat.mul_assoc]
        exact Nat.mul_mod_right _ _
      rw [e1]
      show (s.toNat : Int) * 18446744073709551616 % 18446744073709551616 = 0
      exact Int.mul_emod_left _ _) h
theorem shrU (s : BitVec 64) (b : Int) (hb : 0 ≤ b) (ox : okT n x = true) (oy : okT n y = true) (hx : ev f x = U s) (hy : ev f y = .int kk b) (h : K (upd f d (U (s >>> b.toNat))) w) : SO P n ops ⟨some d, .binOp .shr T x y T2, ty, ps, af, none⟩ f w K :=
  bin ox oy hx hy (by
    have h0 : ¬ b < 0 := by omega
    simp only [binOp, Op.shift, h0, if_false, Sem.run_pure]
    refine congrArg (fun z => Result.ok (Value.int .u64 z) w) ?_
    show (s.toNat : Int).fdiv (2 ^ min b.toNat 64) = _
    rw [Int.fdiv_eq_ediv_of_nonneg _ (by have : (0 : Int) < 2 ^ min b.toNat 64 := Int.pow_pos (by decide)
                                         omega), BitVec.toNat_ushiftRight, Nat.shiftRight_eq_div_pow]
    rcases Nat.lt_or_ge b.toNat 64 with hlt | hge
    · rw [Nat.min_eq_left (by omega)]
      simp
    · rw [Nat.min_eq_right hge]
      have hs := s.isLt
      have e1 : s.toNat / 2 ^ b.toNat = 0 := Nat.div_eq_of_lt (Nat.lt_of_lt_of_le hs (Nat.pow_le_pow_right (by decide) hge))
      rw [e1]
      show (s.toNat : Int) / 18446744073709551616 = 0
      omega) h
theorem shrUn (s : BitVec 64) (k : Nat) (ox : okT n x = true) (oy : okT n y = true) (hx : ev f x = U s) (hy : ev f y = .int kk ((k : Nat) : Int)) (h : K (upd f d (U (s >>> k))) w) : SO P n ops ⟨some d, .binOp .shr T x y T2, ty, ps, af, none⟩ f w K :=
  shrU s ((k : Nat) : Int) (by omega) ox oy hx hy (by rw [Int.toNat_natCast]; exact h)
theorem shlUn (s : BitVec 64) (k : Nat) (ox : okT n x = true) (oy : okT n y = true) (hx : ev f x = U s) (hy : ev f y = .int kk ((k : Nat) : Int)) (h : K (upd f d (U (s <<< k))) w) : SO P n ops ⟨some d, .binOp .shl T x y T2, ty, ps, af, none⟩ f w K :=
  shlU s ((k : Nat) : Int) (by omega) ox oy hx hy (by rw [Int.toNat_natCast]; exact h)
theorem eqU (s t : BitVec 64) (ox : okT n x = true) (oy : okT n y = true) (hx : ev f x = U s) (hy : ev f y = U t) (h : K (upd f d (.bool (decide (s = t)))) w) : SO P n ops ⟨some d, .binOp .eql T x y T2, ty, ps, af, none⟩ f w K :=
  bin ox oy hx hy (by
    simp only [binOp, Op.intCmp, ne_eq, not_true, if_false, Sem.run_pure]
    refine congrArg (fun z => Result.ok (Value.bool z) w) ?_
    by_cases e : s = t
    · subst e; simp
    · have : (s.toNat : Int) ≠ t.toNat := fun h => e (BitVec.eq_of_toNat_eq (by omega))
      simp [e, this]) h
theorem neU (s t : BitVec 64) (ox : okT n x = true) (oy : okT n y = true) (hx : ev f x = U s) (hy : ev f y = U t) (h : K (upd f d (.bool (!decide (s = t)))) w) : SO P n ops ⟨some d, .binOp .neq T x y T2, ty, ps, af, none⟩ f w K :=
  bin ox oy hx hy (by
    simp only [binOp, Op.intCmp, ne_eq, not_true, if_false, Sem.run_pure]
    refine congrArg (fun z => Result.ok (Value.bool z) w) ?_
    by_cases e : s = t
    · subst e; simp
    · have : (s.toNat : Int) ≠ t.toNat := fun h => e (BitVec.eq_of_toNat_eq (by omega))
      simp [e, this]) h
theorem gtU (s t : BitVec 64) (ox : okT n x = true) (oy : okT n y = true) (hx : ev f x = U s) (hy : ev f y = U t) (h : K (upd f d (.bool (decide (t.toNat < s.toNat)))) w) : SO P n ops ⟨some d, .binOp .gtr T x y T2, ty, ps, af, none⟩ f w K :=
  bin ox oy hx hy (by
    simp only [binOp, Op.intCmp, ne_eq, not_true, if_false, Sem.run_pure]
    refine congrArg (fun z => Result.ok (Value.bool z) w) ?_
    simp) h

/-! Conversions of numbers. -/
theorem cv {e : TypeDesc} {k2 : IntKind} (ox : okT n x = true) (hx : ev f x = .int kk a) (h1 : P.underlying T = some e) (h2 : P.underlying T2 = some (.int k2)) (h : K (upd f d (.int k2 (k2.wrap a))) w) :
    SO P n ops ⟨some d, .convert T T2 x, ty, ps, af, none⟩ f w K :=
  SO.value (v := .int k2 (k2.wrap a)) (by simp [execOp, eval_acts ox, hx, convert, underlying, h1, h2, Conv.intToInt]) h
theorem cvU {e : TypeDesc} (ox : okT n x = true) (hx : ev f x = .int kk a) (h1 : P.underlying T = some e) (h2 : P.underlying T2 = some (.int .u64)) (h : K (upd f d (U (BitVec.ofInt 64 a))) w) :
    SO P n ops ⟨some d, .convert T T2 x, ty, ps, af, none⟩ f w K :=
  cv ox hx h1 h2 (by rw [wrap_u64_bv]; exact h)
theorem cvI {e : TypeDesc} (ox : okT n x = true) (hx : ev f x = .int kk a) (hi : I64 a) (h1 : P.underlying T = some e) (h2 : P.underlying T2 = some (.int .i64)) (h : K (upd f d (.int .i64 a)) w) :
    SO P n ops ⟨some d, .convert T T2 x, ty, ps, af, none⟩ f w K :=
  cv ox hx h1 h2 (by rw [w64 hi]; exact h)

/-! max, min. -/
theorem max2 (ox : okT n x = true) (oy : okT n y = true) (hx : ev f x = .int kk a) (hy : ev f y = .int kk b) {ats : Array TypeId} (h : K (upd f d (.int kk (max a b))) w) :
    SO P n ops ⟨some d, .call { callee := .builtin .max, args := #[x, y], argTypes := ats }, ty, ps, af, none⟩ f w K :=
  SO.value (v := .int kk (max a b)) (by
    have : (if b > a then b else a) = max a b := by split <;> omega
    simp [execOp, resolve, invoke, builtin, Builtin.max_, Builtin.max2, eval_acts ox, eval_acts oy, hx, hy, this]) h
theorem min2 (ox : okT n x = true) (oy : okT n y = true) (hx : ev f x = .int kk a) (hy : ev f y = .int kk b) {ats : Array TypeId} (h : K (upd f d (.int kk (min a b))) w) :
    SO P n ops ⟨some d, .call { callee := .builtin .min, args := #[x, y], argTypes := ats }, ty, ps, af, none⟩ f w K :=
  SO.value (v := .int kk (min a b)) (by
    have : (if b < a then b else a) = min a b := by split <;> omega
    simp [execOp, resolve, invoke, builtin, Builtin.min_, Builtin.min2, eval_acts ox, eval_acts oy, hx, hy, this]) h
/-- A component of a tuple. -/
theorem xt {i : Nat} {vs : Array Value} (ox : okT n x = true) (hx : ev f x = .tuple vs) (hi : vs[i]? = some v) (h : K (upd f d v) w) : SO P n ops ⟨some d, .extract x i, ty, ps, af, none⟩ f w K :=
  SO.value (v := v) (by simp [execOp, Instr.extract, eval_acts ox, hx, hi]) h
/-- All operands are told. -/
def okL (n : Nat) (L : List Operand) : Bool := L.all (okT n)
theorem eval_list {L : List Operand} (h : okL n L = true) : L.map (acts n f).eval = L.map (ev f) := by
  apply List.map_congr_left
  intro x hx
  exact eval_acts (List.all_eq_true.1 h x hx)
theorem mf {fn : Fn} {C : List Operand} (oc : okL n C = true) (h : K (upd f d (.func fn #[] (C.map (ev f)).toArray)) w) : SO P n ops ⟨some d, .makeFunc fn #[] C.toArray, ty, ps, af, none⟩ f w K :=
  SO.value (v := .func fn #[] (C.map (ev f)).toArray) (by simp [execOp, Instr.makeFunc, eval_list oc]) h

/-! Calls of Go functions. -/
theorem callFunc_run {g : FuncId} {fn : Func} {c : Code} {args : Array Value} (hf : P.funcs[g]? = some fn) (hb : fn.body = some c) (hn : (fn.name == "runtime.NumGoroutine") = false) :
    (callFunc g args).run P w = .ok (.enter g args) w := by
  simp only [beq_eq_false_iff_ne, ne_eq] at hn
  simp [callFunc, hf, hb, hn]
/-- That a function is one that can be entered. -/
def GoF (P : Program) (g : FuncId) : Prop := ∃ fn c, P.funcs[g]? = some fn ∧ fn.body = some c ∧ (fn.name == "runtime.NumGoroutine") = false
theorem e0 : ([] : List Operand).map (ev f) = [] := rfl
theorem ec {L : List Operand} {vs : List Value} (h : ev f x = v) (t : L.map (ev f) = vs) : (x :: L).map (ev f) = v :: vs := by
  rw [List.map_cons, h, t]
theorem ca {g : FuncId} {L : List Operand} {vs : List Value} {ats : Array TypeId} {R : Value → World → Prop} (G : GoF P g) (ol : okL n L = true) (hL : L.map (ev f) = vs)
    (hc : Calls P g vs.toArray w (Ret R)) (h : ∀ v w', R v w' → K (upd f d v) w') :
    SO P n ops ⟨some d, .call { callee := .value (.func g), args := L.toArray, argTypes := ats }, ty, ps, af, none⟩ f w K := by
  obtain ⟨fn, c, hf, hb, hn⟩ := G
  subst hL
  exact SO.enter (g := g) (args := (L.map (ev f)).toArray) (w' := w) (by
    simp only [execOp, resolve, List.map_toArray, eval_list ol]
    show ((Deferred.ofValue (.func (.func g) #[] #[]) (L.map (ev f)).toArray >>= fun d => invoke d.target d.args).run P w) = _
    simp [Deferred.ofValue, invoke, callFunc_run hf hb hn]) (hc.mono fun e w' hr => by
      obtain ⟨v, rfl, hv⟩ := hr
      exact ⟨v, rfl, h v w' hv⟩)
/-- .. and a function value. -/
theorem cf {fx : Operand} {g : FuncId} {L : List Operand} {vs C : List Value} {ats : Array TypeId} {R : Value → World → Prop} (G : GoF P g)
    (ofx : okT n fx = true) (ol : okL n L = true) (hfx : ev f fx = .func (.func g) #[] C.toArray) (hL : L.map (ev f) = vs)
    (hc : Calls P g (vs ++ C).toArray w (Ret R)) (h : ∀ v w', R v w' → K (upd f d v) w') :
    SO P n ops ⟨some d, .call { callee := .value fx, args := L.toArray, argTypes := ats }, ty, ps, af, none⟩ f w K := by
  obtain ⟨fn, c, hf, hb, hn⟩ := G
  subst hL
  exact SO.enter (g := g) (args := (L.map (ev f) ++ C).toArray) (w' := w) (by
    simp only [execOp, resolve, List.map_toArray, eval_list ol, eval_acts ofx, hfx]
    simp [Deferred.ofValue, invoke, callFunc_run hf hb hn]) (hc.mono fun e w' hr => by
      obtain ⟨v, rfl, hv⟩ := hr
      exact ⟨v, rfl, h v w' hv⟩)
end
end Go.Ew
