/- Texts as numbers; a text of which bits are turned within thirty-two places has another sum. Plain mathematics. -/
import Derived.Test.YtdiapljnhlonlaaCrc
namespace Go.Proofs.Ytdiapljnhlonlaa.Crc
set_option linter.unusedVariables false
set_option linter.unusedSimpArgs false

def num : List UInt8 → Nat
  | [] => 0
  | x :: l => x.toNat ^^^ (2 ^ 8 * num l)
theorem run_num (l : List UInt8) : run 0 l = stepN (8 * l.length) (num l) := by
  induction l with
  | nil => rfl
  | cons x l ih =>
    have e : run 0 (x :: l) = run (upd 0 x.toNat) l := rfl
    rw [e, run_split, ih]
    unfold upd
    rw [Nat.zero_xor, List.length_cons, Nat.mul_add, Nat.mul_one, stepN_add]
    simp only [num]
    rw [stepN_xor 8, stepN_mul, stepN_xor]
theorem run_num' (c : Nat) (l : List UInt8) : run c l = stepN (8 * l.length) (c ^^^ num l) := by
  rw [run_split, run_num, stepN_xor]
/-- One bit of a byte turned. -/
def turnByte (x : UInt8) (k : Nat) : UInt8 := UInt8.ofNat (x.toNat ^^^ 2 ^ k)
theorem turnByte_toNat (x : UInt8) (k : Nat) (h : k < 8) : (turnByte x k).toNat = x.toNat ^^^ 2 ^ k := by
  have h1 : x.toNat ^^^ 2 ^ k < 2 ^ 8 := Nat.xor_lt_two_pow (byte_lt x) (Nat.pow_lt_pow_right (by decide) h)
  unfold turnByte
  rw [UInt8.toNat_ofNat', Nat.mod_eq_of_lt (by simpa using h1)]
def turnBit (l : List UInt8) (p : Nat) : List UInt8 := l.set (p / 8) (turnByte (l.getD (p / 8) 0) (p % 8))
theorem turnBit_length (l : List UInt8) (p : Nat) : (turnBit l p).length = l.length := by simp [turnBit]
theorem mul_xor (k a b : Nat) : 2 ^ k * (a ^^^ b) = 2 ^ k * a ^^^ 2 ^ k * b := by
  have := Nat.shiftLeft_xor_distrib (a := a) (b := b) (i := k)
  simpa [Nat.shiftLeft_eq, Nat.mul_comm] using this
theorem num_turn (l : List UInt8) : ∀ p, p < 8 * l.length → num (turnBit l p) = num l ^^^ 2 ^ p := by
  induction l with
  | nil => intro p h; simp at h
  | cons x l ih =>
    intro p h
    by_cases hp : p < 8
    · have h0 : p / 8 = 0 := by omega
      have h1 : p % 8 = p := by omega
      unfold turnBit
      rw [h0, h1]
      simp only [List.set_cons_zero, List.getD_cons_zero, num]
      rw [turnByte_toNat _ _ hp]
      rw [Nat.xor_assoc, Nat.xor_assoc, Nat.xor_comm (2 ^ p)]
    · obtain ⟨q, rfl⟩ : ∃ q, p = q + 8 := ⟨p - 8, by omega⟩
      have h0 : (q + 8) / 8 = q / 8 + 1 := by omega
      have h1 : (q + 8) % 8 = q % 8 := by omega
      have := ih q (by simp at h; omega)
      unfold turnBit at this ⊢
      rw [h0, h1]
      simp only [List.set_cons_succ, List.getD_cons_succ, num]
      rw [this, mul_xor, Nat.xor_assoc, ← Nat.pow_add, Nat.add_comm 8 q]
theorem step_zero_inv {c : Nat} (h : c < 4294967296) (h0 : step c = 0) : c = 0 := by
  unfold step at h0
  split at h0
  · exfalso
    have e : c / 2 = 3988292384 := by
      have := congrArg (fun z => z ^^^ 3988292384) h0
      simpa [Nat.xor_assoc] using this
    omega
  · omega
theorem stepN_zero_inv (n : Nat) {c : Nat} (h : c < 4294967296) (h0 : stepN n c = 0) : c = 0 := by
  induction n with
  | zero => exact h0
  | succ n ih => exact ih (step_zero_inv (stepN_lt n h) h0)
/-- The turned text, and which bits have been turned, i of the thirty-two places done. -/
def burst (l : List UInt8) (at_ turn : Nat) : Nat → List UInt8 × Nat
  | 0 => (l, 0)
  | i + 1 => if turn / 2 ^ i % 2 = 1 ∧ at_ + i < 8 * l.length then (turnBit (burst l at_ turn i).1 (at_ + i), (burst l at_ turn i).2 ^^^ 2 ^ i) else burst l at_ turn i
theorem burst_length (l : List UInt8) (at_ turn : Nat) : ∀ i, (burst l at_ turn i).1.length = l.length
  | 0 => rfl
  | i + 1 => by
    unfold burst
    split
    · rw [turnBit_length, burst_length l at_ turn i]
    · exact burst_length l at_ turn i
theorem burst_num (l : List UInt8) (at_ turn : Nat) : ∀ i, num (burst l at_ turn i).1 = num l ^^^ 2 ^ at_ * (burst l at_ turn i).2
  | 0 => by simp [burst]
  | i + 1 => by
    unfold burst
    split
    · rename_i h
      rw [num_turn _ _ (by rw [burst_length]; exact h.2), burst_num l at_ turn i, mul_xor, ← Nat.pow_add, Nat.xor_assoc]
    · exact burst_num l at_ turn i
theorem burst_lt (l : List UInt8) (at_ turn : Nat) : ∀ i, (burst l at_ turn i).2 < 2 ^ i
  | 0 => by simp [burst]
  | i + 1 => by
    have ih := burst_lt l at_ turn i
    have h2 : 2 ^ (i + 1) = 2 ^ i + 2 ^ i := by rw [Nat.pow_succ]; omega
    unfold burst
    split
    · exact Nat.xor_lt_two_pow (by omega) (Nat.pow_lt_pow_right (by decide) (by omega))
    · omega
/-- Has something been turned? -/
def turned (l : List UInt8) (at_ turn : Nat) : Nat → Bool
  | 0 => false
  | i + 1 => if turn / 2 ^ i % 2 = 1 ∧ at_ + i < 8 * l.length then true else turned l at_ turn i
theorem burst_turned (l : List UInt8) (at_ turn : Nat) : ∀ i, turned l at_ turn i = true → (burst l at_ turn i).2 ≠ 0
  | 0 => by simp [turned]
  | i + 1 => by
    have hl := burst_lt l at_ turn i
    unfold burst turned
    split
    · intro _ h0
      have e : (burst l at_ turn i).2 = 2 ^ i := by
        have := congrArg (fun z => z ^^^ 2 ^ i) h0
        simpa [Nat.xor_assoc] using this
      omega
    · exact burst_turned l at_ turn i
theorem burst_sum (l : List UInt8) (at_ turn : Nat) (ha : at_ < 8 * l.length) (ht : turned l at_ turn 32 = true) : sum (burst l at_ turn 32).1 ≠ sum l := by
  intro h
  rw [sum_eq, sum_eq] at h
  have h1 : run 4294967295 (burst l at_ turn 32).1 = run 4294967295 l := by
    have := congrArg (fun z => 4294967295 ^^^ z) h
    simpa [← Nat.xor_assoc] using this
  rw [run_num', run_num', burst_length, stepN_xor, stepN_xor _ _ (num l)] at h1
  have h2 : stepN (8 * l.length) (num (burst l at_ turn 32).1) = stepN (8 * l.length) (num l) := by
    have := congrArg (fun z => stepN (8 * l.length) 4294967295 ^^^ z) h1
    simpa [← Nat.xor_assoc] using this
  rw [burst_num, stepN_xor] at h2
  have h3 : stepN (8 * l.length) (2 ^ at_ * (burst l at_ turn 32).2) = 0 := by
    have := congrArg (fun z => stepN (8 * l.length) (num l) ^^^ z) h2
    simpa [← Nat.xor_assoc] using this
  rw [show 8 * l.length = (8 * l.length - at_) + at_ from by omega, stepN_add, stepN_mul] at h3
  exact burst_turned l at_ turn 32 ht (stepN_zero_inv _ (by simpa using burst_lt l at_ turn 32) h3)

end Go.Proofs.Ytdiapljnhlonlaa.Crc
