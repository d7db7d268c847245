/- Bits of words of 32 and 64 and 8; what an unary operation yields. No condition. -/
import Derived.Test.YtgfdmhjjlajmgaaGreatDoorKURu
import Derived.Laws.BitsAllLaws
import Derived.Laws.Unary
namespace Go.Cg
set_option linter.unusedVariables false
set_option linter.unusedSimpArgs false
open Go.RowKit
section
variable {P : Program} {t : TypeId}
theorem of32 (a : Nat) (ha : a < 4294967296) : (BitVec.ofInt 32 (a : Int)).toNat = a := by
  rw [BitVec.ofInt_natCast, BitVec.toNat_ofNat]; exact Nat.mod_eq_of_lt (by omega)
theorem and32 (a b : Nat) (ha : a < 4294967296) (hb : b < 4294967296) (w : World) : (binOp .and t (.int .u32 (a : Int)) (.int .u32 (b : Int))).run P w = .ok (.int .u32 ((a &&& b : Nat) : Int)) w := by
  have hx : a &&& b < 2 ^ 32 := Nat.and_lt_two_pow _ (by omega)
  have h : bits .and .u32 (a : Int) (b : Int) = ((a &&& b : Nat) : Int) := by
    show IntKind.u32.wrap ((BitVec.ofInt 32 (a : Int) &&& BitVec.ofInt 32 (b : Int)).toNat : Int) = _
    rw [BitVec.toNat_and, of32 a ha, of32 b hb, IntKind.wrap_u32']; omega
  rw [binOp_and, intBits_and, h, Sem.run_pure]
theorem xor32 (a b : Nat) (ha : a < 4294967296) (hb : b < 4294967296) (w : World) : (binOp .xor t (.int .u32 (a : Int)) (.int .u32 (b : Int))).run P w = .ok (.int .u32 ((a ^^^ b : Nat) : Int)) w := by
  have hx : a ^^^ b < 2 ^ 32 := Nat.xor_lt_two_pow (by omega) (by omega)
  have h : bits .xor .u32 (a : Int) (b : Int) = ((a ^^^ b : Nat) : Int) := by
    show IntKind.u32.wrap ((BitVec.ofInt 32 (a : Int) ^^^ BitVec.ofInt 32 (b : Int)).toNat : Int) = _
    rw [BitVec.toNat_xor, of32 a ha, of32 b hb, IntKind.wrap_u32']; omega
  rw [binOp_xor, intBits_xor, h, Sem.run_pure]
theorem half32 (a : Nat) (w : World) : (binOp .shr t (.int .u32 (a : Int)) (.int .u64 1)).run P w = .ok (.int .u32 ((a / 2 : Nat) : Int)) w := by
  rw [binOp_shr]
  have : Int.fdiv (a : Int) (2 ^ (min (1 : Int).toNat (IntKind.u32).bits)) = ((a / 2 : Nat) : Int) := by
    show Int.fdiv (a : Int) (2 : Int) = _
    rw [Int.fdiv_eq_ediv_of_nonneg _ (by omega)]; omega
  have h0 : ¬ ((1 : Int) < 0) := by decide
  simp only [Op.shift, h0, if_false, this, Sem.run_pure]
theorem byte64 (a : Nat) (w : World) : (binOp .shr t (.int .u64 (a : Int)) (.int .u64 8)).run P w = .ok (.int .u64 ((a / 256 : Nat) : Int)) w := by
  rw [binOp_shr]
  have : Int.fdiv (a : Int) (2 ^ (min (8 : Int).toNat (IntKind.u64).bits)) = ((a / 256 : Nat) : Int) := by
    show Int.fdiv (a : Int) (256 : Int) = _
    rw [Int.fdiv_eq_ediv_of_nonneg _ (by omega)]; omega
  have h0 : ¬ ((8 : Int) < 0) := by decide
  simp only [Op.shift, h0, if_false, this, Sem.run_pure]
theorem odd32 (a : Nat) (ha : a < 4294967296) (w : World) : (binOp .and t (.int .u32 (a : Int)) (.int .u32 1)).run P w = .ok (.int .u32 ((a % 2 : Nat) : Int)) w := by
  have h := and32 (P := P) (t := t) a 1 ha (by decide) w
  rwa [Nat.and_one_is_mod] at h
theorem poly32 (c : Nat) (w : World) : (binOp .and t (.int .u32 3988292384) (.int .u32 (IntKind.u32.wrap (0 - ((c % 2 : Nat) : Int))))).run P w = .ok (.int .u32 (((if c % 2 = 1 then 3988292384 else 0 : Nat)) : Int)) w := by
  rcases Nat.mod_two_eq_zero_or_one c with h | h
  · rw [h, show IntKind.u32.wrap (0 - ((0 : Nat) : Int)) = ((0 : Nat) : Int) from by decide]
    have := and32 (P := P) (t := t) 3988292384 0 (by decide) (by decide) w
    simpa using this
  · rw [h, show IntKind.u32.wrap (0 - ((1 : Nat) : Int)) = ((4294967295 : Nat) : Int) from by decide]
    have := and32 (P := P) (t := t) 3988292384 4294967295 (by decide) (by decide) w
    simpa using this
end
section
variable {P : Program} {ops : Array Oper} {a : Act} {o : Oper} {L : List Res} {n : Nat} {E : Env}
theorem y_un {u : UnOp} {t : TypeId} {x : Operand} {v r : Value} (S : Slots a n E) (ho : o.op = .unOp u t x) (hx : ev E x = some v) (hr : ∀ w, (Op.unary u v).run P w = .ok r w) : Yl P L o a r := fun w _ => by
  simp only [execOp, ho, S.eval hx, Sem.run_bind, hr, Result.andThen_ok, Sem.run_pure]
theorem neg32 (m : Int) (w : World) : (Op.unary .neg (.int .u32 m)).run P w = .ok (.int .u32 (IntKind.u32.wrap (0 - m))) w := by
  rw [unary_neg]; rfl
theorem not32 (a : Nat) (ha : a < 4294967296) (w : World) : (Op.unary .xor (.int .u32 (a : Int))).run P w = .ok (.int .u32 ((a ^^^ 4294967295 : Nat) : Int)) w := by
  rw [unary_xor]
  have h := xor32 (P := P) (t := 0) 4294967295 a (by decide) ha w
  rw [binOp_xor] at h
  rw [Nat.xor_comm]
  exact h
end
namespace Oc
set_option linter.unusedVariables false
set_option linter.unusedSimpArgs false
theorem crcFrom_snoc (b : Dk.By) (x : UInt8) : crcFrom (b ++ [x]) = crcByte (crcFrom b) x := by simp [crcFrom]
theorem crcFrom_take {b : Dk.By} {i : Nat} (h : i < b.length) : crcFrom (b.take (i + 1)) = crcByte (crcFrom (b.take i)) (b.getD i 0) := by
  rw [← crcFrom_snoc]; congr 1
  rw [List.getD_eq_getElem?_getD, List.getElem?_eq_getElem h, Option.getD_some]; simp
theorem le_snoc : ∀ k n, le (k + 1) n = le k n ++ [UInt8.ofNat (n / 256 ^ k % 256)]
  | 0, n => by simp [le]
  | k + 1, n => by
    rw [le, le_snoc k (n / 256), le, Nat.div_div_eq_div_mul, Nat.pow_succ, Nat.mul_comm]; rfl
end Oc
end Go.Cg
namespace Go.Cg
set_option linter.unusedVariables false
set_option linter.unusedSimpArgs false
section
variable {P : Program} {t : TypeId}
theorem shl8 (a : Nat) (ha : a * 256 < 18446744073709551616) (w : World) : (binOp .shl t (.int .u64 (a : Int)) (.int .u64 8)).run P w = .ok (.int .u64 ((a * 256 : Nat) : Int)) w := by
  rw [binOp_shl]
  have h0 : ¬ ((8 : Int) < 0) := by decide
  have e : IntKind.u64.wrap ((a : Int) * 2 ^ (min (8 : Int).toNat (IntKind.u64).bits)) = ((a * 256 : Nat) : Int) := by
    show IntKind.u64.wrap ((a : Int) * 256) = _
    rw [show ((a : Int) * 256) = ((a * 256 : Nat) : Int) from by omega]
    exact wu64 (by omega) (by omega)
  simp only [Op.shift, h0, if_false, e, Sem.run_pure]
theorem orByte (a x : Nat) (ha : a * 256 < 18446744073709551616) (hx : x < 256) (w : World) : (binOp .or t (.int .u64 ((a * 256 : Nat) : Int)) (.int .u64 (x : Int))).run P w = .ok (.int .u64 ((a * 256 + x : Nat) : Int)) w := by
  have h := bits_or_u64_nat (a * 256) x ha (by omega)
  have e : a * 256 ||| x = a * 256 + x := by
    have := Nat.shiftLeft_add_eq_or_of_lt (i := 8) (b := x) (by omega) a
    rw [Nat.shiftLeft_eq] at this
    exact this.symm
  rw [e] at h
  rw [binOp_or, intBits_or, h, Sem.run_pure]
end
namespace Oc
set_option linter.unusedVariables false
set_option linter.unusedSimpArgs false
theorem unle_step {b : Dk.By} {q : Nat} (h : q < b.length) : unle (b.drop q) = unle (b.drop (q + 1)) * 256 + (b[q]?.getD 0).toNat := by
  rw [List.drop_eq_getElem_cons h, unle, List.getElem?_eq_getElem h]; simp; omega
end Oc
end Go.Cg
