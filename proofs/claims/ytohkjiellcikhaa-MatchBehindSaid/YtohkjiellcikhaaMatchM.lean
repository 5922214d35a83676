/- The finder of match as plain functions: what the code does, without memory. -/
import Derived.Test.YtohkjiellcikhaaI64
namespace Go.Proofs.Ytohkjiellcikhaa.MF
open Go.RowKit
set_option linter.unusedVariables false
set_option linter.unusedSimpArgs false

/-- The byte at a place. -/
def byt (l : List Int) (i : Nat) : Nat := (l.getD i 0).toNat
def AllB (l : List Int) : Prop := ∀ i, i < l.length → 0 ≤ l.getD i 0 ∧ l.getD i 0 < 256
theorem byt_lt {l : List Int} (h : AllB l) (i : Nat) (hi : i < l.length) : byt l i < 256 := by
  have := h i hi
  unfold byt; omega
theorem byt_eq {l : List Int} (h : AllB l) (i : Nat) (hi : i < l.length) : l.getD i 0 = (byt l i : Int) := by
  have := h i hi
  unfold byt; omega
def room (l : List Int) (at_ : Nat) : Nat := (byt l at_ * 9176 ^^^ byt l (at_ + 1) * 331 ^^^ byt l (at_ + 2)) % 8192
theorem room_lt (l : List Int) (a : Nat) : room l a < 8192 := Nat.mod_lt _ (by decide)

structure St where
  last : Nat → Nat
  ahead : Nat → Nat
def St.new : St := ⟨fun _ => 0, fun _ => 0⟩
def note (l : List Int) (s : St) (at_ : Nat) : St :=
  if l.length < at_ + 3 then s else
  ⟨fun k => if k = room l at_ then at_ + 1 else s.last k, fun i => if i = at_ then s.last (room l at_) else s.ahead i⟩
/-- What holds while places below n alone are noted. -/
def St.Inv (s : St) (n : Nat) : Prop := (∀ k, s.last k ≤ n) ∧ ∀ i, s.ahead i ≤ i
theorem St.new_inv (n : Nat) : St.new.Inv n := ⟨fun _ => Nat.zero_le _, fun _ => Nat.zero_le _⟩
theorem note_inv {l : List Int} {s : St} {a : Nat} (h : s.Inv a) : (note l s a).Inv (a + 1) := by
  unfold note
  split
  · exact ⟨fun k => Nat.le_succ_of_le (h.1 k), h.2⟩
  · refine ⟨fun k => ?_, fun i => ?_⟩
    · show (if k = room l a then a + 1 else s.last k) ≤ a + 1
      split
      · exact Nat.le_refl _
      · exact Nat.le_succ_of_le (h.1 k)
    · show (if i = a then s.last (room l a) else s.ahead i) ≤ i
      split
      · rename_i e; subst e; exact h.1 _
      · exact h.2 i

def comm (l : List Int) (a b : Nat) : Nat → Nat → Nat
  | 0, n => n
  | f + 1, n => if b + n < l.length ∧ n < 258 ∧ byt l (a + n) = byt l (b + n) then comm l a b f (n + 1) else n
def common (l : List Int) (a b : Nat) : Nat := comm l a b 258 0

def bestL (l : List Int) (at_ T : Nat) (ahead : Nat → Nat) : Nat → Nat → Nat → Nat → Nat → Nat × Nat
  | 0, _, long, back, _ => (long, back)
  | f + 1, p, long, back, tries =>
    if p = 0 then (long, back) else
    if 32768 < at_ - (p - 1) ∨ (T ≤ tries ∧ 64 < at_ - (p - 1)) then (long, back) else
    if (if long < common l (p - 1) at_ then common l (p - 1) at_ else long) = 258 then (if long < common l (p - 1) at_ then (common l (p - 1) at_, at_ - (p - 1)) else (long, back)) else
    bestL l at_ T ahead f (ahead (p - 1)) (if long < common l (p - 1) at_ then common l (p - 1) at_ else long) (if long < common l (p - 1) at_ then at_ - (p - 1) else back) (tries + 1)
def bestR (l : List Int) (s : St) (T at_ : Nat) : Nat × Nat := bestL l at_ T s.ahead (at_ + 1) (s.last (room l at_)) 0 0 0
def best (l : List Int) (s : St) (T at_ : Nat) : Nat × Nat :=
  if l.length < at_ + 3 then (0, 0) else if (bestR l s T at_).1 < 3 then (0, 0) else bestR l s T at_

def noteAll (l : List Int) (s : St) (at_ : Nat) : Nat → St
  | 0 => s
  | n + 1 => note l (noteAll l s at_ n) (at_ + n)
theorem noteAll_inv {l : List Int} {s : St} {a : Nat} (h : s.Inv a) : ∀ n, (noteAll l s a n).Inv (a + n)
  | 0 => h
  | n + 1 => note_inv (noteAll_inv h n)

/-- A token: the byte, how long, how far back. -/
structure Tok where
  b : Nat
  long : Nat
  back : Nat
deriving DecidableEq
def step (l : List Int) (level : Int) (T : Nat) (s : St) (at_ : Nat) : Nat × Nat := if 0 < level then best l s T at_ else (0, 0)
def findL (l : List Int) (level : Int) (T : Nat) : Nat → Nat → St → List Tok → List Tok
  | 0, _, _, out => out
  | f + 1, at_, s, out =>
    if l.length ≤ at_ then out else
    if (step l level T s at_).1 = 0 then findL l level T f (at_ + 1) (note l s at_) (out ++ [⟨byt l at_, 0, 0⟩])
    else findL l level T f (at_ + (step l level T s at_).1) (noteAll l s at_ (step l level T s at_).1) (out ++ [⟨0, (step l level T s at_).1, (step l level T s at_).2⟩])
def tries (level : Int) : Nat := 8 * 2 ^ (min (max level 1) 6).toNat
def find (l : List Int) (level : Int) : List Tok := findL l level (tries level) (l.length + 1) 0 St.new []

/-! ### what is found is there -/
theorem comm_spec (l : List Int) (a b : Nat) : ∀ f n, n + f = 258 → (∀ i, i < n → byt l (a + i) = byt l (b + i)) → b + n ≤ l.length →
    n ≤ comm l a b f n ∧ comm l a b f n ≤ 258 ∧ b + comm l a b f n ≤ l.length ∧ ∀ i, i < comm l a b f n → byt l (a + i) = byt l (b + i)
  | 0, n, hf, h, hb => by unfold comm; exact ⟨Nat.le_refl _, by omega, hb, h⟩
  | f + 1, n, hf, h, hb => by
    unfold comm
    split
    · rename_i hc
      have := comm_spec l a b f (n + 1) (by omega) (fun i hi => by
        by_cases e : i = n
        · subst e; exact hc.2.2
        · exact h i (by omega)) (by omega)
      exact ⟨by omega, this.2.1, this.2.2.1, this.2.2.2⟩
    · exact ⟨Nat.le_refl _, by omega, hb, h⟩
theorem comm_more (l : List Int) (a b : Nat) : ∀ f n, n + f = 258 → ∀ m, n ≤ m → m ≤ 258 → b + m ≤ l.length → (∀ i, n ≤ i → i < m → byt l (a + i) = byt l (b + i)) → m ≤ comm l a b f n
  | 0, n, hf, m, h1, h2, _, _ => by unfold comm; omega
  | f + 1, n, hf, m, h1, h2, h3, h4 => by
    unfold comm
    by_cases e : n = m
    · subst e
      split
      · rename_i hc
        exact Nat.le_trans (Nat.le_succ n) (by
          by_cases e2 : n + 1 ≤ 258
          · exact (comm_spec' l a b f (n + 1))
          · omega)
      · exact Nat.le_refl _
    · rw [if_pos ⟨by omega, by omega, h4 n (Nat.le_refl _) (by omega)⟩]
      exact comm_more l a b f (n + 1) (by omega) m (by omega) h2 h3 (fun i hi hm => h4 i (by omega) hm)
where comm_spec' (l : List Int) (a b : Nat) : ∀ f n, n ≤ comm l a b f n
  | 0, n => by unfold comm; exact Nat.le_refl _
  | f + 1, n => by
    unfold comm
    split
    · exact Nat.le_trans (Nat.le_succ n) (comm_spec' l a b f (n + 1))
    · exact Nat.le_refl _
theorem common_le (l : List Int) (a b : Nat) (hb : b ≤ l.length) : common l a b ≤ 258 ∧ b + common l a b ≤ l.length ∧ ∀ i, i < common l a b → byt l (a + i) = byt l (b + i) := by
  have := comm_spec l a b 258 0 rfl (fun i h => by omega) (by omega)
  exact ⟨this.2.1, this.2.2.1, this.2.2.2⟩
theorem common_ge (l : List Int) (a b m : Nat) (h1 : m ≤ 258) (h2 : b + m ≤ l.length) (h3 : ∀ i, i < m → byt l (a + i) = byt l (b + i)) : m ≤ common l a b :=
  comm_more l a b 258 0 rfl m (Nat.zero_le _) h1 h2 (fun i _ hi => h3 i hi)

/-- A run that was found (or none). -/
def Run (l : List Int) (at_ long back : Nat) : Prop := long ≤ 258 ∧ at_ + long ≤ l.length ∧ (0 < long → 1 ≤ back ∧ back ≤ at_ ∧ back ≤ 32768) ∧ ∀ i, i < long → byt l (at_ - back + i) = byt l (at_ + i)
theorem bestL_run (l : List Int) (at_ T : Nat) (ahead : Nat → Nat) (ha : ∀ i, ahead i ≤ i) (hat : at_ ≤ l.length) : ∀ f p long back tr, p ≤ at_ → Run l at_ long back →
    Run l at_ (bestL l at_ T ahead f p long back tr).1 (bestL l at_ T ahead f p long back tr).2
  | 0, _, _, _, _, _, h => h
  | f + 1, p, long, back, tr, hp, h => by
    unfold bestL
    by_cases h0 : p = 0
    · rw [if_pos h0]; exact h
    rw [if_neg h0]
    by_cases h1 : 32768 < at_ - (p - 1) ∨ (T ≤ tr ∧ 64 < at_ - (p - 1))
    · rw [if_pos h1]; exact h
    rw [if_neg h1]
    have hc := common_le l (p - 1) at_ hat
    have hnew : Run l at_ (if long < common l (p - 1) at_ then common l (p - 1) at_ else long) (if long < common l (p - 1) at_ then at_ - (p - 1) else back) := by
      split
      · refine ⟨hc.1, hc.2.1, fun _ => ⟨by omega, by omega, by omega⟩, fun i hi => ?_⟩
        have := hc.2.2 i hi
        rw [show at_ - (at_ - (p - 1)) = p - 1 by omega]
        exact this
      · exact h
    by_cases h2 : (if long < common l (p - 1) at_ then common l (p - 1) at_ else long) = 258
    · rw [if_pos h2]
      by_cases h3 : long < common l (p - 1) at_
      · rw [if_pos h3]; rw [if_pos h3, if_pos h3] at hnew; exact hnew
      · rw [if_neg h3]; rw [if_neg h3, if_neg h3] at hnew; exact hnew
    rw [if_neg h2]
    exact bestL_run l at_ T ahead ha hat f _ _ _ _ (Nat.le_trans (ha (p - 1)) (by omega)) hnew
theorem bestR_run (l : List Int) (s : St) (T at_ : Nat) (hs : s.Inv at_) (hat : at_ ≤ l.length) : Run l at_ (bestR l s T at_).1 (bestR l s T at_).2 :=
  bestL_run l at_ T s.ahead hs.2 hat _ _ 0 0 0 (hs.1 _) ⟨by omega, by omega, fun h => by omega, fun i hi => by omega⟩
theorem best_run (l : List Int) (s : St) (T at_ : Nat) (hs : s.Inv at_) (hat : at_ ≤ l.length) : Run l at_ (best l s T at_).1 (best l s T at_).2 ∧ ((best l s T at_).1 = 0 ∨ 3 ≤ (best l s T at_).1) := by
  unfold best
  split
  · exact ⟨⟨by simp, by simpa using hat, fun h => by simp at h, fun i hi => by simp at hi⟩, .inl rfl⟩
  · split
    · exact ⟨⟨by simp, by simpa using hat, fun h => by simp at h, fun i hi => by simp at hi⟩, .inl rfl⟩
    · exact ⟨bestR_run l s T at_ hs hat, .inr (by omega)⟩
theorem step_run (l : List Int) (level : Int) (s : St) (T at_ : Nat) (hs : s.Inv at_) (hat : at_ ≤ l.length) : Run l at_ (step l level T s at_).1 (step l level T s at_).2 ∧ ((step l level T s at_).1 = 0 ∨ 3 ≤ (step l level T s at_).1) := by
  unfold step
  split
  · exact best_run l s T at_ hs hat
  · exact ⟨⟨by simp, by simpa using hat, fun h => by simp at h, fun i hi => by simp at hi⟩, .inl rfl⟩

end Go.Proofs.Ytohkjiellcikhaa.MF
