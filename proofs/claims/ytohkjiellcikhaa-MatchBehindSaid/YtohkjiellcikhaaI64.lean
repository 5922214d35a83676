/- int's bit operations as arithmetic. -/
import Derived.WalkKit
namespace Go.Proofs.Ytohkjiellcikhaa
open Go.RowKit
set_option linter.unusedVariables false
set_option linter.unusedSimpArgs false

theorem ofInt64_toNat (v : Int) : ((BitVec.ofInt 64 v).toNat : Int) = v % 18446744073709551616 := by
  rw [BitVec.toNat_ofInt]
  have : (0 : Int) ≤ v % 18446744073709551616 := Int.emod_nonneg _ (by decide)
  simp only [Nat.reducePow]
  omega
theorem ofInt64_nat (a : Nat) (h : a < 9223372036854775808) : (BitVec.ofInt 64 (a : Int)).toNat = a := by
  have := ofInt64_toNat (a : Int)
  omega
theorem wrap_nat (a : Nat) (h : a < 9223372036854775808) : IntKind.i64.wrap (a : Int) = (a : Int) := by
  rw [IntKind.wrap_i64]
  omega
theorem i64_and_nat (a b : Nat) (ha : a < 9223372036854775808) (hb : b < 9223372036854775808) : bits .and .i64 (a : Int) (b : Int) = ((a &&& b : Nat) : Int) := by
  have hx : a &&& b < 2 ^ 63 := Nat.and_lt_two_pow _ (by omega)
  show IntKind.i64.wrap ((BitVec.ofInt 64 (a : Int) &&& BitVec.ofInt 64 (b : Int)).toNat : Int) = _
  rw [BitVec.toNat_and, ofInt64_nat a ha, ofInt64_nat b hb, wrap_nat _ (by omega)]
theorem i64_or_nat (a b : Nat) (ha : a < 9223372036854775808) (hb : b < 9223372036854775808) : bits .or .i64 (a : Int) (b : Int) = ((a ||| b : Nat) : Int) := by
  have hx : a ||| b < 2 ^ 63 := Nat.or_lt_two_pow (by omega) (by omega)
  show IntKind.i64.wrap ((BitVec.ofInt 64 (a : Int) ||| BitVec.ofInt 64 (b : Int)).toNat : Int) = _
  rw [BitVec.toNat_or, ofInt64_nat a ha, ofInt64_nat b hb, wrap_nat _ (by omega)]
theorem i64_xor_nat (a b : Nat) (ha : a < 9223372036854775808) (hb : b < 9223372036854775808) : bits .xor .i64 (a : Int) (b : Int) = ((a ^^^ b : Nat) : Int) := by
  have hx : a ^^^ b < 2 ^ 63 := Nat.xor_lt_two_pow (by omega) (by omega)
  show IntKind.i64.wrap ((BitVec.ofInt 64 (a : Int) ^^^ BitVec.ofInt 64 (b : Int)).toNat : Int) = _
  rw [BitVec.toNat_xor, ofInt64_nat a ha, ofInt64_nat b hb, wrap_nat _ (by omega)]
/-- x & (2^n - 1), x any number. -/
theorem i64_mask (v : Int) (n : Nat) (hn : n ≤ 62) : bits .and .i64 v ((2 ^ n - 1 : Nat) : Int) = v % ((2 ^ n : Nat) : Int) := by
  have hp : 2 ^ n ≤ 2 ^ 62 := Nat.pow_le_pow_right (by decide) hn
  have hp0 : 0 < 2 ^ n := Nat.two_pow_pos n
  have hm : (2 ^ n - 1 : Nat) < 9223372036854775808 := by omega
  show IntKind.i64.wrap ((BitVec.ofInt 64 v &&& BitVec.ofInt 64 ((2 ^ n - 1 : Nat) : Int)).toNat : Int) = _
  rw [BitVec.toNat_and, ofInt64_nat _ hm, Nat.and_two_pow_sub_one_eq_mod]
  have hlt : (BitVec.ofInt 64 v).toNat % 2 ^ n < 2 ^ n := Nat.mod_lt _ hp0
  rw [wrap_nat _ (by omega), Int.natCast_emod, ofInt64_toNat]
  apply Int.emod_emod_of_dvd
  have h64 : (18446744073709551616 : Int) = ((2 ^ 64 : Nat) : Int) := by decide
  rw [h64]
  exact Int.natCast_dvd_natCast.2 (Nat.pow_dvd_pow 2 (by omega))
theorem i64_and_one (v : Int) : bits .and .i64 v 1 = v % 2 := i64_mask v 1 (by decide)

theorem wrap64_nat (a : Nat) (h : a < 9223372036854775808) : wrap64 (a : Int) = (a : Int) := by
  unfold wrap64
  omega
theorem wrap_shl (B m S : Nat) (hm : m ≤ 62) (hS : B * 2 ^ m = S) (hl : S < 9223372036854775808) : wrap64 ((B : Int) * 2 ^ min m 64) = (S : Int) := by
  rw [Nat.min_eq_left (by omega), show (B : Int) * 2 ^ m = (S : Int) from by rw [← hS, Int.natCast_mul, Int.natCast_pow]; rfl, wrap64_nat S hl]
theorem mask_form (v : Int) (t : Nat) (ht : t ≤ 62) : bits .and .i64 v (wrap64 (wrap64 ((2 : Int) ^ min t 64) - 1)) = v % ((2 ^ t : Nat) : Int) := by
  have hp : 2 ^ t ≤ 2 ^ 62 := Nat.pow_le_pow_right (by decide) ht
  have hp0 : 0 < 2 ^ t := Nat.two_pow_pos t
  rw [Nat.min_eq_left (by omega), show (2 : Int) ^ t = ((2 ^ t : Nat) : Int) from (Int.natCast_pow 2 t).symm, wrap64_nat _ (by omega),
    show ((2 ^ t : Nat) : Int) - 1 = ((2 ^ t - 1 : Nat) : Int) from by omega, wrap64_nat _ (by omega)]
  exact i64_mask v t ht
theorem mask_form' (v : Int) (t : Nat) (ht : t ≤ 62) : bits .and .i64 v (wrap64 (wrap64 ((2 : Int) ^ t) - 1)) = v % ((2 ^ t : Nat) : Int) := by
  have h := mask_form v t ht
  rwa [Nat.min_eq_left (by omega)] at h
theorem nat_div_pow (x s : Nat) : (x : Int) / 2 ^ s = ((x / 2 ^ s : Nat) : Int) := by
  rw [Int.natCast_ediv, Int.natCast_pow]; rfl
theorem wrap_shl' (B m S : Nat) (hS : B * 2 ^ m = S) (hl : S < 9223372036854775808) : wrap64 ((B : Int) * 2 ^ m) = (S : Int) := by
  rw [show (B : Int) * 2 ^ m = (S : Int) from by rw [← hS, Int.natCast_mul, Int.natCast_pow]; rfl, wrap64_nat S hl]
theorem run_shl64 {P : Program} (W : World) (kc : IntKind) (B m S : Nat) (hm : m ≤ 62) (hS : B * 2 ^ m = S) (hl : S < 9223372036854775808) : (Op.shift .shl .i64 (B : Int) kc (m : Int)).run P W = .ok (.int .i64 (S : Int)) W := by
  unfold Op.shift
  rw [if_neg (by omega)]
  simp only [Int.toNat_natCast]
  rw [show min m IntKind.i64.bits = m from Nat.min_eq_left (by have : IntKind.i64.bits = 64 := rfl; omega)]
  rw [show (B : Int) * 2 ^ m = (S : Int) from by rw [← hS, Int.natCast_mul, Int.natCast_pow]; rfl, wrap_nat S hl]
  rfl

end Go.Proofs.Ytohkjiellcikhaa
