/- The mathematics of the sums (CRC-32) as used in the document: plain natural numbers and lists, no program. -/
namespace Go.Proofs.Ytdiapljnhlonlaa.Crc
set_option linter.unusedVariables false
set_option linter.unusedSimpArgs false

def step (c : Nat) : Nat := if c % 2 = 1 then c / 2 ^^^ 3988292384 else c / 2
def stepN : Nat → Nat → Nat
  | 0, c => c
  | n + 1, c => step (stepN n c)
/-- One byte more (the document's way). -/
def upd (c x : Nat) : Nat := stepN 8 (c ^^^ x)
def run (c : Nat) (l : List UInt8) : Nat := l.foldl (fun c x => upd c x.toNat) c
def more (c : Nat) (l : List UInt8) : Nat := 4294967295 - run (4294967295 - c) l
def sum (l : List UInt8) : Nat := more 0 l
/-- A table's entry. -/
def tab (n : Nat) : Nat := stepN 8 n

theorem step_lt {c : Nat} (h : c < 4294967296) : step c < 4294967296 := by
  unfold step
  split
  · exact Nat.xor_lt_two_pow (n := 32) (by omega) (by omega)
  · omega
theorem stepN_lt (n : Nat) {c : Nat} (h : c < 4294967296) : stepN n c < 4294967296 := by
  induction n with
  | zero => exact h
  | succ n ih => exact step_lt ih
theorem upd_lt {c x : Nat} (h : c < 4294967296) (hx : x < 4294967296) : upd c x < 4294967296 :=
  stepN_lt 8 (Nat.xor_lt_two_pow (n := 32) h hx)
theorem byte_lt (x : UInt8) : x.toNat < 256 := by have := x.toNat_lt; omega
theorem run_lt (l : List UInt8) : ∀ {c : Nat}, c < 4294967296 → run c l < 4294967296 := by
  induction l with
  | nil => intro c h; exact h
  | cons x l ih => intro c h; exact ih (upd_lt h (by have := byte_lt x; omega))
theorem more_lt (c : Nat) (l : List UInt8) : more c l < 4294967296 := by unfold more; omega
theorem tab_lt {n : Nat} (h : n < 256) : tab n < 4294967296 := stepN_lt 8 (by omega)

theorem xor_mod_two (a b : Nat) : (a ^^^ b) % 2 = (a % 2 + b % 2) % 2 := by
  have h := Nat.testBit_xor (a ^^^ b) 0 0
  have h1 : (a ^^^ b).testBit 0 = (a.testBit 0 ^^ b.testBit 0) := Nat.testBit_xor a b 0
  simp only [Nat.testBit_zero] at h1
  rcases Nat.mod_two_eq_zero_or_one a with ha | ha <;> rcases Nat.mod_two_eq_zero_or_one b with hb | hb <;> rcases Nat.mod_two_eq_zero_or_one (a ^^^ b) with hc | hc <;> simp_all
theorem xor_half (a b : Nat) : (a ^^^ b) / 2 = a / 2 ^^^ b / 2 := by
  have := Nat.shiftRight_xor_distrib (a := a) (b := b) (i := 1)
  simpa [Nat.shiftRight_eq_div_pow] using this
theorem step_xor (a b : Nat) : step (a ^^^ b) = step a ^^^ step b := by
  unfold step
  rw [xor_mod_two, xor_half]
  rcases Nat.mod_two_eq_zero_or_one a with ha | ha <;> rcases Nat.mod_two_eq_zero_or_one b with hb | hb <;> simp only [ha, hb]
  · simp
  · simp [Nat.xor_assoc]
  · simp only [Nat.reduceAdd, Nat.reduceMod, if_true, reduceIte]
    rw [if_neg (by decide), Nat.xor_assoc, Nat.xor_comm (b / 2), ← Nat.xor_assoc]
  · simp only [Nat.reduceAdd, Nat.reduceMod, if_true, reduceIte]
    rw [if_neg (by decide), Nat.xor_assoc, Nat.xor_comm (b / 2), ← Nat.xor_assoc 3988292384, Nat.xor_self, Nat.zero_xor]
theorem step_zero : step 0 = 0 := rfl
theorem stepN_xor (n a b : Nat) : stepN n (a ^^^ b) = stepN n a ^^^ stepN n b := by
  induction n with
  | zero => rfl
  | succ n ih => simp only [stepN, ih, step_xor]
theorem stepN_zero (n : Nat) : stepN n 0 = 0 := by
  induction n with
  | zero => rfl
  | succ n ih => simp only [stepN, ih, step_zero]
theorem stepN_add (m n c : Nat) : stepN (m + n) c = stepN m (stepN n c) := by
  induction m with
  | zero => simp [stepN]
  | succ m ih => rw [Nat.succ_add]; simp only [stepN, ih]
/-- Even numbers are halved: a multiple of 2^n is cut by n places. -/
theorem stepN_mul (n h : Nat) : stepN n (2 ^ n * h) = h := by
  induction n generalizing h with
  | zero => simp [stepN]
  | succ n ih =>
    have e : 2 ^ (n + 1) * h = 2 ^ n * (2 * h) := by rw [Nat.pow_succ, Nat.mul_assoc]
    rw [e]
    simp only [stepN]
    rw [ih]
    unfold step
    rw [if_neg (by omega)]
    omega
theorem split8 (c : Nat) : c = (2 ^ 8 * (c / 256)) ^^^ (c % 256) := by
  have h : (2 ^ 8 * (c / 256)) ^^^ (c % 256) = 2 ^ 8 * (c / 256) + c % 256 := by
    rw [Nat.two_pow_add_eq_or_of_lt (show c % 256 < 2 ^ 8 from Nat.mod_lt _ (by decide))]
    apply Nat.eq_of_testBit_eq
    intro i
    rw [Nat.testBit_xor, Nat.testBit_or, Nat.testBit_two_pow_mul]
    by_cases hi : i < 8
    · simp [Nat.not_le_of_lt hi]
    · have : (c % 256).testBit i = false := Nat.testBit_lt_two_pow (Nat.lt_of_lt_of_le (Nat.mod_lt _ (by decide)) (show 256 ≤ 2 ^ i from by
        have := Nat.pow_le_pow_right (n := 2) (by decide) (show 8 ≤ i by omega); simpa using this))
      simp [this]
  rw [h]; omega
/-- The table's way is the document's. -/
theorem upd_tab (c x : Nat) : upd c x = c / 256 ^^^ tab ((c % 256) ^^^ x) := by
  unfold upd tab
  conv => lhs; rw [split8 c]
  rw [Nat.xor_assoc, stepN_xor, stepN_mul]

theorem run_append (c : Nat) (a b : List UInt8) : run c (a ++ b) = run (run c a) b := by simp [run]
theorem more_append (c : Nat) (a b : List UInt8) (hc : c < 4294967296) : more c (a ++ b) = more (more c a) b := by
  unfold more
  rw [run_append]
  have := run_lt a (c := 4294967295 - c) (by omega)
  rw [show 4294967295 - (4294967295 - run (4294967295 - c) a) = run (4294967295 - c) a from by omega]

/-- What a shift (what becomes of each bit) makes of a number, its first k bits. -/
def pick (F : Nat → Nat) (c : Nat) : Nat → Nat
  | 0 => 0
  | k + 1 => if c / 2 ^ k % 2 = 1 then pick F c k ^^^ F k else pick F c k
theorem pick_lt (F : Nat → Nat) (c : Nat) : ∀ k, (∀ i, i < k → F i < 4294967296) → pick F c k < 4294967296 := by
  intro k
  induction k with
  | zero => intro _; exact (by decide : (0 : Nat) < 4294967296)
  | succ k ih =>
    intro h
    unfold pick
    have h1 := ih (fun i hi => h i (by omega))
    split
    · exact Nat.xor_lt_two_pow (n := 32) h1 (h k (by omega))
    · exact h1
theorem mod_pow_succ_xor (c k : Nat) : c % 2 ^ (k + 1) = if c / 2 ^ k % 2 = 1 then c % 2 ^ k ^^^ 2 ^ k else c % 2 ^ k := by
  have hm : c % 2 ^ k < 2 ^ k := Nat.mod_lt _ (Nat.two_pow_pos k)
  have h1 : c % 2 ^ (k + 1) = c % 2 ^ k + 2 ^ k * (c / 2 ^ k % 2) := by rw [Nat.pow_succ, Nat.mod_mul]
  rw [h1]
  split
  · rename_i h
    rw [h, Nat.mul_one, Nat.xor_comm]
    apply Nat.eq_of_testBit_eq
    intro i
    have e : c % 2 ^ k + 2 ^ k = 2 ^ k * 1 + c % 2 ^ k := by omega
    rw [e, Nat.two_pow_add_eq_or_of_lt hm, Nat.testBit_or, Nat.testBit_xor, Nat.mul_one]
    rw [Nat.testBit_two_pow]
    by_cases hi : k = i
    · subst hi
      simp [Nat.testBit_lt_two_pow hm]
    · simp [hi]
  · rename_i h
    rw [show c / 2 ^ k % 2 = 0 from by omega, Nat.mul_zero, Nat.add_zero]
/-- A linear map by what becomes of each bit. -/
theorem pick_linear (f : Nat → Nat) (h0 : f 0 = 0) (hx : ∀ a b, f (a ^^^ b) = f a ^^^ f b) (c : Nat) : ∀ k, pick (fun i => f (2 ^ i)) c k = f (c % 2 ^ k) := by
  intro k
  induction k with
  | zero => simp [pick, Nat.mod_one, h0]
  | succ k ih =>
    unfold pick
    rw [mod_pow_succ_xor, ih]
    split
    · rw [hx]
    · rfl
/-- The bits' way through n steps. -/
def sh (n : Nat) : Nat → Nat := fun k => stepN n (2 ^ k)
theorem sh_lt (n k : Nat) (h : k < 32) : sh n k < 4294967296 := stepN_lt n (by
  have := Nat.pow_lt_pow_right (a := 2) (by decide) h
  simpa using this)
theorem pick_sh (n c : Nat) (h : c < 4294967296) : pick (sh n) c 32 = stepN n c := by
  have := pick_linear (stepN n) (stepN_zero n) (fun a b => stepN_xor n a b) c 32
  rw [Nat.mod_eq_of_lt (by simpa using h)] at this
  exact this
theorem sh_twice (n k : Nat) (h : k < 32) : pick (sh n) (sh n k) 32 = sh (2 * n) k := by
  rw [pick_sh n _ (sh_lt n k h)]
  unfold sh
  rw [← stepN_add, Nat.two_mul]

theorem run_split (l : List UInt8) : ∀ c, run c l = stepN (8 * l.length) c ^^^ run 0 l := by
  induction l with
  | nil => intro c; simp [run, stepN]
  | cons x l ih =>
    intro c
    have e1 : run c (x :: l) = run (upd c x.toNat) l := rfl
    have e2 : run 0 (x :: l) = run (upd 0 x.toNat) l := rfl
    rw [e1, e2, ih (upd c x.toNat), ih (upd 0 x.toNat)]
    unfold upd
    rw [stepN_xor, Nat.zero_xor, List.length_cons, Nat.mul_add, stepN_add, stepN_xor, Nat.mul_one, Nat.xor_assoc]
theorem nat_not32' (c : Nat) (h : c < 4294967296) : 4294967295 - c = 4294967295 ^^^ c := by
  have := congrArg BitVec.toNat (BitVec.allOnes_xor (x := BitVec.ofNat 32 c))
  simp only [BitVec.toNat_xor, BitVec.toNat_allOnes, BitVec.toNat_ofNat, BitVec.toNat_not] at this
  rw [Nat.mod_eq_of_lt (by simpa using h)] at this
  simpa using this.symm
theorem sum_eq (l : List UInt8) : sum l = 4294967295 ^^^ run 4294967295 l := nat_not32' _ (run_lt l (by decide))
theorem xor_four (F a b r : Nat) : F ^^^ (a ^^^ r) = (b ^^^ a) ^^^ (F ^^^ (b ^^^ r)) := by
  apply Nat.eq_of_testBit_eq
  intro i
  simp only [Nat.testBit_xor]
  cases F.testBit i <;> cases a.testBit i <;> cases b.testBit i <;> cases r.testBit i <;> rfl
theorem sum_join (l m : List UInt8) : sum (l ++ m) = stepN (8 * m.length) (sum l) ^^^ sum m := by
  rw [sum_eq, sum_eq l, sum_eq m, run_append, run_split m (run 4294967295 l), run_split m 4294967295, stepN_xor]
  exact xor_four _ _ _ _
theorem sum_more (l m : List UInt8) : sum (l ++ m) = more (sum l) m := more_append 0 l m (by decide)
theorem sum_lt (l : List UInt8) : sum l < 4294967296 := more_lt 0 l

/-- Three texts, xored. -/
def xor3 : List UInt8 → List UInt8 → List UInt8 → List UInt8
  | a :: as, b :: bs, c :: cs => (a ^^^ b ^^^ c) :: xor3 as bs cs
  | _, _, _ => []
theorem xor3_length : ∀ a b c, (xor3 a b c).length = min (min a.length b.length) c.length
  | [], b, c => by simp [xor3]
  | a :: as, [], c => by simp [xor3]
  | a :: as, b :: bs, [] => by simp [xor3]
  | a :: as, b :: bs, c :: cs => by simp [xor3, xor3_length as bs cs]
theorem xor3_at : ∀ a b c k, (h1 : k < a.length) → (h2 : k < b.length) → (h3 : k < c.length) → (xor3 a b c)[k]? = some (a[k] ^^^ b[k] ^^^ c[k])
  | [], b, c, k, h1, _, _ => absurd h1 (by simp)
  | a :: as, [], c, k, _, h2, _ => absurd h2 (by simp)
  | a :: as, b :: bs, [], k, _, _, h3 => absurd h3 (by simp)
  | a :: as, b :: bs, c :: cs, 0, _, _, _ => by simp [xor3]
  | a :: as, b :: bs, c :: cs, k + 1, h1, h2, h3 => by
    have := xor3_at as bs cs k (by simpa using h1) (by simpa using h2) (by simpa using h3)
    simpa [xor3] using this
theorem xor3_take : ∀ a b c, xor3 a b c = xor3 (a.take (min (min a.length b.length) c.length)) (b.take (min (min a.length b.length) c.length)) (c.take (min (min a.length b.length) c.length))
  | [], b, c => by simp [xor3]
  | a :: as, [], c => by simp [xor3]
  | a :: as, b :: bs, [] => by simp [xor3]
  | a :: as, b :: bs, c :: cs => by
    have e : min (min (a :: as).length (b :: bs).length) (c :: cs).length = min (min as.length bs.length) cs.length + 1 := by simp
    rw [e]
    simp only [List.take_succ_cons, xor3]
    rw [← xor3_take as bs cs]
theorem xor_six (a b c x y z : Nat) : a ^^^ b ^^^ c ^^^ (x ^^^ y ^^^ z) = (a ^^^ x) ^^^ (b ^^^ y) ^^^ (c ^^^ z) := by
  apply Nat.eq_of_testBit_eq
  intro i
  simp only [Nat.testBit_xor]
  cases a.testBit i <;> cases b.testBit i <;> cases c.testBit i <;> cases x.testBit i <;> cases y.testBit i <;> cases z.testBit i <;> rfl
theorem run_xor3 : ∀ (a b c : List UInt8), a.length = b.length → b.length = c.length → ∀ x y z, run (x ^^^ y ^^^ z) (xor3 a b c) = run x a ^^^ run y b ^^^ run z c
  | [], [], [], _, _, x, y, z => rfl
  | a :: as, b :: bs, c :: cs, h1, h2, x, y, z => by
    have ih := run_xor3 as bs cs (by simpa using h1) (by simpa using h2) (upd x a.toNat) (upd y b.toNat) (upd z c.toNat)
    show run (upd (x ^^^ y ^^^ z) (a ^^^ b ^^^ c).toNat) (xor3 as bs cs) = run (upd x a.toNat) as ^^^ run (upd y b.toNat) bs ^^^ run (upd z c.toNat) cs
    rw [← ih]
    congr 1
    unfold upd
    rw [← stepN_xor, ← stepN_xor, UInt8.toNat_xor, UInt8.toNat_xor, xor_six]
  | [], [], _ :: _, _, h2, _, _, _ => by simp at h2
  | [], _ :: _, _, h1, _, _, _, _ => by simp at h1
  | _ :: _, [], _, h1, _, _, _, _ => by simp at h1
  | _ :: _, _ :: _, [], _, h2, _, _, _ => by simp at h2
theorem sum_xor3 (a b c : List UInt8) (h1 : a.length = b.length) (h2 : b.length = c.length) : sum (xor3 a b c) = sum a ^^^ sum b ^^^ sum c := by
  rw [sum_eq, sum_eq a, sum_eq b, sum_eq c]
  have := run_xor3 a b c h1 h2 4294967295 4294967295 4294967295
  rw [show (4294967295 : Nat) ^^^ 4294967295 ^^^ 4294967295 = 4294967295 from by decide] at this
  rw [this]
  have := xor_six 4294967295 4294967295 4294967295 (run 4294967295 a) (run 4294967295 b) (run 4294967295 c)
  rw [show (4294967295 : Nat) ^^^ 4294967295 ^^^ 4294967295 = 4294967295 from by decide] at this
  exact this
theorem sum_xors (a b c : List UInt8) (n : Nat) (hn : n = min (min a.length b.length) c.length) : sum (xor3 a b c) = sum (a.take n) ^^^ sum (b.take n) ^^^ sum (c.take n) := by
  subst hn
  rw [xor3_take]
  exact sum_xor3 _ _ _ (by simp <;> omega) (by simp <;> omega)

end Go.Proofs.Ytdiapljnhlonlaa.Crc
