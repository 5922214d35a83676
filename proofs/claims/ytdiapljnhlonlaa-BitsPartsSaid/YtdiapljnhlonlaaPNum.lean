/- Texts as numbers, the first byte the lowest; the bits of a text are those of the number. Plain mathematics. -/
import Derived.Test.YtdiapljnhlonlaaPBits
namespace Go.Proofs.Ytdiapljnhlonlaa.PB
set_option linter.unusedVariables false
set_option linter.unusedSimpArgs false

def num : List UInt8 → Nat
  | [] => 0
  | x :: l => x.toNat + 256 * num l
theorem byte_lt (x : UInt8) : x.toNat < 256 := by have := x.toNat_lt; omega
theorem num_lt : ∀ l : List UInt8, num l < 2 ^ (8 * l.length)
  | [] => by simp [num]
  | x :: l => by
    have h1 := num_lt l
    have h2 := byte_lt x
    have e : 2 ^ (8 * (x :: l).length) = 256 * 2 ^ (8 * l.length) := by
      rw [List.length_cons, Nat.mul_add, Nat.pow_add]; omega
    rw [e]
    simp only [num]
    omega
theorem num_byte : ∀ (l : List UInt8) (i : Nat) (h : i < l.length), num l / 2 ^ (8 * i) % 256 = l[i].toNat
  | x :: l, 0, _ => by
    have := byte_lt x
    simp only [num, Nat.mul_zero, Nat.pow_zero, Nat.div_one, List.getElem_cons_zero]
    omega
  | x :: l, i + 1, h => by
    have ih := num_byte l i (by simpa using h)
    have hx := byte_lt x
    have e : 2 ^ (8 * (i + 1)) = 256 * 2 ^ (8 * i) := by rw [Nat.mul_add, Nat.pow_add]; omega
    have e2 : (x.toNat + 256 * num l) / 256 = num l := by omega
    simp only [num, List.getElem_cons_succ]
    rw [e, ← Nat.div_div_eq_div_mul, e2, ih]
theorem num_append : ∀ (a b : List UInt8), num (a ++ b) = num a + 2 ^ (8 * a.length) * num b
  | [], b => by simp [num]
  | x :: a, b => by
    have e : 2 ^ (8 * (x :: a).length) = 256 * 2 ^ (8 * a.length) := by
      rw [List.length_cons, Nat.mul_add, Nat.pow_add]; omega
    rw [List.cons_append]
    simp only [num]
    rw [num_append a b, e, Nat.mul_add, Nat.mul_assoc]
    omega
/-- The n bits from a place on, as a number. -/
def tk (N a n : Nat) : Nat := N / 2 ^ a % 2 ^ n
theorem tk_lt (N a n : Nat) : tk N a n < 2 ^ n := Nat.mod_lt _ (Nat.two_pow_pos n)
theorem tk_zero (N a : Nat) : tk N a 0 = 0 := by simp [tk, Nat.mod_one]
theorem tk_add (N a n m : Nat) : tk N a (n + m) = tk N a n + 2 ^ n * tk N (a + n) m := by
  unfold tk
  rw [Nat.pow_add, Nat.mod_mul, Nat.pow_add, ← Nat.div_div_eq_div_mul]
theorem tk_or (N a n m : Nat) : tk N a n ||| tk N (a + n) m * 2 ^ n = tk N a (n + m) := by
  rw [tk_add, Nat.or_comm, Nat.mul_comm, ← Nat.two_pow_add_eq_or_of_lt (tk_lt N a n)]
  omega
/-- What a byte gives. -/
theorem tk_byte (l : List UInt8) (p take : Nat) (h : p / 8 < l.length) (ht : p % 8 + take ≤ 8) : l[p / 8].toNat / 2 ^ (p % 8) % 2 ^ take = tk (num l) p take := by
  rw [← num_byte l (p / 8) h]
  unfold tk
  have e : 2 ^ p = 2 ^ (8 * (p / 8)) * 2 ^ (p % 8) := by rw [← Nat.pow_add]; congr 1; omega
  rw [e, ← Nat.div_div_eq_div_mul]
  generalize num l / 2 ^ (8 * (p / 8)) = M
  have e2 : 256 = 2 ^ (p % 8) * 2 ^ (8 - p % 8) := by rw [← Nat.pow_add, show p % 8 + (8 - p % 8) = 8 from by omega]
  have e3 : M % 256 / 2 ^ (p % 8) = M / 2 ^ (p % 8) % 2 ^ (8 - p % 8) := by
    rw [e2, Nat.mod_mul_right_div_self]
  rw [e3]
  apply Nat.mod_mod_of_dvd
  exact Nat.pow_dvd_pow 2 (by omega)
theorem tk_small (N q t k : Nat) (h : k + t ≤ 24) : tk N q t * 2 ^ k < 16777217 := by
  have h1 : tk N q t * 2 ^ k ≤ 2 ^ t * 2 ^ k := Nat.mul_le_mul_right _ (Nat.le_of_lt (tk_lt N q t))
  rw [← Nat.pow_add] at h1
  have h2 : 2 ^ (t + k) ≤ 2 ^ 24 := Nat.pow_le_pow_right (by decide) (by omega)
  have h3 : (2 : Nat) ^ 24 = 16777216 := by decide
  omega
theorem tk_small' (N p k : Nat) (h : k ≤ 24) : tk N p k < 16777216 := by
  have h1 := tk_lt N p k
  have h2 : 2 ^ k ≤ 2 ^ 24 := Nat.pow_le_pow_right (by decide) h
  have h3 : (2 : Nat) ^ 24 = 16777216 := by decide
  omega
theorem tk_mod (N a n m : Nat) (h : a + n ≤ m) : tk (N % 2 ^ m) a n = tk N a n := by
  unfold tk
  have e : 2 ^ m = 2 ^ a * 2 ^ (m - a) := by rw [← Nat.pow_add]; congr 1; omega
  rw [e, Nat.mod_mul_right_div_self]
  exact Nat.mod_mod_of_dvd _ (Nat.pow_dvd_pow 2 (by omega))

/-- What stands in a writer: whole bytes, and bits that wait. -/
def wnum (l : List UInt8) (wait : Nat) : Nat := num l + 2 ^ (8 * l.length) * wait
theorem flush (l : List UInt8) (wait : Nat) (b : UInt8) (hb : b.toNat = wait % 256) : wnum (l ++ [b]) (wait / 256) = wnum l wait := by
  unfold wnum
  rw [num_append]
  simp only [num, List.length_append, List.length_singleton, Nat.mul_add, Nat.mul_one, Nat.mul_zero, Nat.add_zero, hb, Nat.pow_add, Nat.add_assoc]
  rw [Nat.mul_assoc, ← Nat.mul_add]
  congr 2
  have : (2 : Nat) ^ 8 = 256 := by decide
  omega
theorem put_wait (wait many x n : Nat) (h : wait < 2 ^ many) (hx : x < 2 ^ n) : wait ||| x * 2 ^ many = wait + x * 2 ^ many ∧ wait + x * 2 ^ many < 2 ^ (many + n) := by
  constructor
  · rw [Nat.or_comm, Nat.mul_comm, ← Nat.two_pow_add_eq_or_of_lt h]; omega
  · have h1 : (x + 1) * 2 ^ many ≤ 2 ^ n * 2 ^ many := Nat.mul_le_mul_right _ hx
    rw [← Nat.pow_add, Nat.add_comm n, Nat.add_mul, Nat.one_mul] at h1
    omega
theorem wnum_put (l : List UInt8) (wait many x : Nat) : wnum l (wait + x * 2 ^ many) = wnum l wait + x * 2 ^ (8 * l.length + many) := by
  unfold wnum
  rw [Nat.mul_add, Nat.add_assoc, Nat.pow_add]
  congr 2
  rw [Nat.mul_comm x, ← Nat.mul_assoc, Nat.mul_comm]
theorem wait_lt (wait many : Nat) (h : wait < 2 ^ many) (h8 : 8 ≤ many) : wait / 256 < 2 ^ (many - 8) := by
  have e : 2 ^ many = 256 * 2 ^ (many - 8) := by
    rw [show many = 8 + (many - 8) from by omega, Nat.pow_add, show 8 + (many - 8) - 8 = many - 8 from by omega]
  rw [e] at h
  omega
theorem pow31 (many : Nat) (h : many ≤ 31) : 2 ^ many ≤ 2147483648 := by
  have h2 : 2 ^ many ≤ 2 ^ 31 := Nat.pow_le_pow_right (by decide) h
  have h3 : (2 : Nat) ^ 31 = 2147483648 := by decide
  omega

end Go.Proofs.Ytdiapljnhlonlaa.PB
