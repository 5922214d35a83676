/- Bits of numbers, and their turning round: plain mathematics. -/
namespace Go.Proofs.Ytdiapljnhlonlaa.PB
set_option linter.unusedVariables false
set_option linter.unusedSimpArgs false

/-- A number's bit at a place (two's complement). -/
def bit (v : Int) (k : Nat) : Nat := (v / ((2 ^ k : Nat) : Int) % 2).toNat
theorem bit_le (v : Int) (k : Nat) : bit v k ≤ 1 := by unfold bit; omega
theorem bit_eq (v : Int) (k : Nat) : (bit v k : Int) = v / ((2 ^ k : Nat) : Int) % 2 := by unfold bit; omega
/-- The document's way: the first k bits, turned round. -/
def rturn (v : Int) : Nat → Nat
  | 0 => 0
  | k + 1 => 2 * rturn v k + bit v k
theorem rturn_lt (v : Int) : ∀ k, rturn v k < 2 ^ k
  | 0 => by simp [rturn]
  | k + 1 => by
    have := rturn_lt v k
    have := bit_le v k
    have : 2 ^ (k + 1) = 2 * 2 ^ k := by rw [Nat.pow_succ]; omega
    simp only [rturn]
    omega
/-- The program's way: each bit is laid at its place at once. -/
theorem lay (v : Int) (n k : Nat) (h : k < n) : (rturn v k * 2 ^ (n - k)) ||| (bit v k * 2 ^ (n - 1 - k)) = rturn v (k + 1) * 2 ^ (n - (k + 1)) := by
  have e1 : n - k = (n - 1 - k) + 1 := by omega
  have e2 : n - (k + 1) = n - 1 - k := by omega
  have hb := bit_le v k
  rw [e1, e2]
  generalize n - 1 - k = m
  have hlt : bit v k * 2 ^ m < 2 ^ (m + 1) := by
    rw [Nat.pow_succ]
    have : bit v k * 2 ^ m ≤ 1 * 2 ^ m := Nat.mul_le_mul_right _ hb
    have := Nat.two_pow_pos m
    omega
  rw [Nat.mul_comm (rturn v k), ← Nat.two_pow_add_eq_or_of_lt hlt]
  simp only [rturn, Nat.add_mul, Nat.pow_succ]
  rw [Nat.mul_comm (2 ^ m * 2), Nat.mul_comm 2 (rturn v k), Nat.mul_assoc, Nat.mul_comm 2 (2 ^ m)]
/-- Which bit of what is turned round stands where. -/
theorem rturn_bit (v : Int) : ∀ k j, j < k → rturn v k / 2 ^ j % 2 = bit v (k - 1 - j)
  | 0, j, h => absurd h (by omega)
  | k + 1, 0, _ => by
    have := bit_le v k
    simp only [rturn, Nat.pow_zero, Nat.div_one, Nat.sub_zero]
    rw [show k + 1 - 1 = k from rfl]
    omega
  | k + 1, j + 1, h => by
    have ih := rturn_bit v k j (by omega)
    have hb := bit_le v k
    have e : (2 * rturn v k + bit v k) / 2 = rturn v k := by omega
    simp only [rturn]
    rw [Nat.pow_succ', ← Nat.div_div_eq_div_mul, e, ih]
    congr 1
    omega
theorem bit_nat (a k : Nat) : bit (a : Int) k = a / 2 ^ k % 2 := by
  unfold bit
  have : (a : Int) / ((2 ^ k : Nat) : Int) % 2 = ((a / 2 ^ k % 2 : Nat) : Int) := by simp
  rw [this]
  rfl
/-- Numbers below 2^n by their bits. -/
theorem eq_of_bits : ∀ (n : Nat) (a b : Nat), a < 2 ^ n → b < 2 ^ n → (∀ j, j < n → a / 2 ^ j % 2 = b / 2 ^ j % 2) → a = b
  | 0, a, b, ha, hb, _ => by simp at ha hb; omega
  | n + 1, a, b, ha, hb, h => by
    have h0 := h 0 (by omega)
    have := eq_of_bits n (a / 2) (b / 2) (by rw [Nat.pow_succ] at ha; omega) (by rw [Nat.pow_succ] at hb; omega) (fun j hj => by
      have := h (j + 1) (by omega)
      rw [Nat.pow_succ', ← Nat.div_div_eq_div_mul, ← Nat.div_div_eq_div_mul] at this
      exact this)
    simp at h0
    omega
theorem mod_toNat_bit (v : Int) (n j : Nat) (h : j < n) : (v % ((2 ^ n : Nat) : Int)).toNat / 2 ^ j % 2 = bit v j := by
  have hp : (0 : Int) < ((2 ^ n : Nat) : Int) := by have := Nat.two_pow_pos n; omega
  have h0 : 0 ≤ v % ((2 ^ n : Nat) : Int) := Int.emod_nonneg _ (by omega)
  have e1 : ((v % ((2 ^ n : Nat) : Int)).toNat / 2 ^ j % 2 : Nat) = bit ((v % ((2 ^ n : Nat) : Int)).toNat : Int) j := (bit_nat _ _).symm
  rw [e1, Int.toNat_of_nonneg h0]
  unfold bit
  congr 1
  have e2 : ((2 ^ n : Nat) : Int) = ((2 ^ j : Nat) : Int) * (2 * ((2 ^ (n - j - 1) : Nat) : Int)) := by
    have : 2 ^ n = 2 ^ j * (2 * 2 ^ (n - j - 1)) := by rw [← Nat.pow_succ', ← Nat.pow_add]; congr 1; omega
    rw [this]
    simp
  have hv : v = v % ((2 ^ n : Nat) : Int) + ((2 ^ j : Nat) : Int) * (2 * ((2 ^ (n - j - 1) : Nat) : Int) * (v / ((2 ^ n : Nat) : Int))) := by
    have := Int.emod_add_mul_ediv v ((2 ^ n : Nat) : Int)
    rw [← Int.mul_assoc, ← e2]
    exact this.symm
  conv => rhs; rw [hv]
  have hp2 : ((2 ^ j : Nat) : Int) ≠ 0 := by have := Nat.two_pow_pos j; omega
  rw [Int.add_mul_ediv_left _ _ hp2, Int.mul_assoc, Int.add_mul_emod_self_left]
/-- Twice turned round: the first n bits. -/
theorem rturn_twice (v : Int) (n : Nat) : (rturn (rturn v n : Int) n : Int) = v % ((2 ^ n : Nat) : Int) := by
  have hp : (0 : Int) < ((2 ^ n : Nat) : Int) := by have := Nat.two_pow_pos n; omega
  have h0 : 0 ≤ v % ((2 ^ n : Nat) : Int) := Int.emod_nonneg _ (by omega)
  have h1 : v % ((2 ^ n : Nat) : Int) < ((2 ^ n : Nat) : Int) := Int.emod_lt_of_pos _ hp
  have : rturn (rturn v n : Int) n = (v % ((2 ^ n : Nat) : Int)).toNat := by
    refine eq_of_bits n _ _ (rturn_lt _ _) (by omega) (fun j hj => ?_)
    rw [rturn_bit _ _ _ hj, mod_toNat_bit v n j hj, bit_nat, rturn_bit _ _ _ (by omega)]
    congr 1
    omega
  rw [this]
  exact Int.toNat_of_nonneg h0

end Go.Proofs.Ytdiapljnhlonlaa.PB
