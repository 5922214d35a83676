/- What Find makes: tokens that are right and tell the data; near places; like bytes. Plain. -/
import Derived.Test.YtohkjiellcikhaaTokT
import Derived.Test.YtohkjiellcikhaaGFind
namespace Go.Proofs.Ytohkjiellcikhaa.P07
open Go.RowKit Go.Proofs.YtohkjiellcikhaaW.PrintWords Go.Proofs.YtohkjiellcikhaaW.PrintLast Go.Proofs.YtohkjiellcikhaaW.PrintMore Go.Proofs.Ytohkjiellcikhaa MF
set_option linter.unusedVariables false
set_option linter.unusedSimpArgs false

theorem take_snoc_byt {l : List Int} (hB : AllB l) (a : Nat) (h : a < l.length) : l.take (a + 1) = l.take a ++ [(byt l a : Int)] := by
  rw [List.take_succ_eq_append_getElem h]
  have := byt_eq hB a h
  rw [List.getD_eq_getElem?_getD, List.getElem?_eq_getElem h] at this
  simp only [Option.getD_some] at this
  rw [this]
theorem cp_take {l : List Int} (hB : AllB l) (a b : Nat) (h1 : 1 ≤ b) (h2 : b ≤ a) : ∀ (n k : Nat), a + k + n ≤ l.length → (∀ i, i < k + n → byt l (a - b + i) = byt l (a + i)) →
    cp (b : Int) n (l.take (a + k)) = l.take (a + k + n)
  | 0, k, _, _ => rfl
  | n + 1, k, hl, hc => by
    have hlen : (l.take (a + k)).length = a + k := by simp; omega
    have hrd : rd (l.take (a + k)) (((l.take (a + k)).length : Int) - (b : Int)) = (byt l (a + k) : Int) := by
      rw [hlen]
      unfold rd
      rw [show (((a + k : Nat) : Int) - (b : Int)).toNat = a - b + k by omega, List.getD_eq_getElem?_getD, List.getElem?_take, if_pos (by omega), ← List.getD_eq_getElem?_getD, byt_eq hB _ (by omega), hc k (by omega)]
    rw [cp, hrd, ← take_snoc_byt hB (a + k) (by omega)]
    have := cp_take hB a b h1 h2 n (k + 1) (by omega) (fun i hi => hc i (by omega))
    rw [show a + k + 1 = a + (k + 1) by omega, this]
    congr 1; omega

theorem findL_right (l : List Int) (hB : AllB l) (lev : Int) (T : Nat) : ∀ (f a : Nat) (st : St) (toks : List Tok), st.Inv a → a ≤ l.length → l.length - a < f → right (some 0) (toks.map toS) = some (a : Int) → tell [] (toks.map toS) = l.take a → toks.length ≤ a →
    right (some 0) ((findL l lev T f a st toks).map toS) = some (l.length : Int) ∧ tell [] ((findL l lev T f a st toks).map toS) = l ∧ (findL l lev T f a st toks).length ≤ l.length
  | 0, a, st, toks, _, _, hf, _, _, _ => by omega
  | f + 1, a, st, toks, hi, ha, hf, hr, ht, hn => by
    by_cases hlt : a < l.length
    · obtain ⟨p, hp⟩ : ∃ p, MF.step l lev T st a = p := ⟨_, rfl⟩
      obtain ⟨n, b⟩ := p
      have hrun := step_run l lev st T a hi (by omega)
      rw [hp] at hrun
      obtain ⟨⟨r1, r2, r3, r4⟩, r5⟩ := hrun
      by_cases h0 : n = 0
      · rw [find_alone hlt hp h0]
        refine findL_right l hB lev T f (a + 1) _ _ (note_inv hi) (by omega) (by omega) ?_ ?_ (by simp; omega)
        · rw [List.map_append, right_append, hr]
          show rStep (some (a : Int)) (toS ⟨byt l a, 0, 0⟩) = _
          unfold rStep toS
          simp
        · rw [List.map_append, tell_append, ht, take_snoc_byt hB a hlt]
          show tStep (l.take a) (toS ⟨byt l a, 0, 0⟩) = _
          unfold tStep toS
          simp
      · have h3 : 3 ≤ n := by omega
        have hb := r3 (by omega)
        rw [find_run hlt hp h0]
        refine findL_right l hB lev T f (a + n) _ _ (noteAll_inv hi n) (by omega) (by omega) ?_ ?_ (by simp; omega)
        · rw [List.map_append, right_append, hr]
          show rStep (some (a : Int)) (toS ⟨0, n, b⟩) = _
          unfold rStep toS
          simp only
          rw [if_neg (by omega), if_pos ⟨rfl, by simp only; omega, by simp only; omega, by simp only; omega, by simp only; omega, by simp only; omega⟩]
          rfl
        · rw [List.map_append, tell_append, ht]
          show tStep (l.take a) (toS ⟨0, n, b⟩) = _
          unfold tStep toS
          simp only
          rw [if_neg (by omega), Int.toNat_natCast]
          exact cp_take hB a b hb.1 hb.2.1 n 0 (by omega) (fun i hi => r4 i (by omega))
    · have e : a = l.length := by omega
      subst e
      rw [find_end (Nat.le_refl _)]
      exact ⟨hr, by rw [ht, List.take_length], hn⟩
theorem find_right (l : List Int) (hB : AllB l) (lev : Int) : right (some 0) ((MF.find l lev).map toS) = some (l.length : Int) ∧ tell [] ((MF.find l lev).map toS) = l ∧ (MF.find l lev).length ≤ l.length :=
  findL_right l hB lev _ _ 0 St.new [] (St.new_inv 0) (by omega) (by omega) rfl rfl (by simp)
theorem find_f (l : List Int) (lev : Int) (hw : ∀ x ∈ l, (Lit.int .u8 x).wf = true) (hl : l.length ≤ 5000000000000) : match_Find.f l lev = some ((MF.find l lev).map toS) ∧ AllB l := by
  have h : okB l = true := by
    unfold okB
    rw [List.all_eq_true]
    intro x hx
    have := bounds_u8 (hw x hx)
    simp; omega
  refine ⟨?_, okB_all h⟩
  unfold match_Find.f
  rw [h, if_pos (by simp; omega)]

/-! ### level 0 -/
theorem findL_bytes (l : List Int) (lev : Int) (hlev : ¬ 0 < lev) (T : Nat) : ∀ (f a : Nat) (st : St) (toks : List Tok), a ≤ l.length → l.length - a < f → findL l lev T f a st toks = toks ++ (List.range (l.length - a)).map fun i => ⟨byt l (a + i), 0, 0⟩
  | 0, a, st, toks, _, hf => by omega
  | f + 1, a, st, toks, ha, hf => by
    by_cases hlt : a < l.length
    · have hp : MF.step l lev T st a = (0, 0) := by unfold MF.step; rw [if_neg hlev]
      rw [find_alone hlt hp rfl, findL_bytes l lev hlev T f (a + 1) _ _ (by omega) (by omega)]
      rw [List.append_assoc]
      congr 1
      obtain ⟨m, hm⟩ : ∃ m, l.length - a = m + 1 := ⟨l.length - a - 1, by omega⟩
      rw [hm, show l.length - (a + 1) = m by omega, List.range_succ_eq_map]
      simp only [List.map_cons, List.map_map, List.singleton_append, Nat.add_zero]
      congr 1
      apply List.map_congr_left
      intro i _
      simp only [Function.comp]
      rw [show a + 1 + i = a + (i + 1) by omega]
    · have e : a = l.length := by omega
      subst e
      rw [find_end (Nat.le_refl _)]
      simp

/-! ### places that are noted are found -/
/-- Three bytes begin at both places. -/
def Three (l : List Int) (p q : Nat) : Prop := ∀ i, i < 3 → byt l (p + i) = byt l (q + i)
theorem room_three {l : List Int} {p q : Nat} (h : Three l p q) : room l p = room l q := by
  have h0 := h 0 (by omega)
  have h1 := h 1 (by omega)
  have h2 := h 2 (by omega)
  unfold room
  rw [Nat.add_zero, Nat.add_zero] at h0
  rw [h0, h1, h2]
/-- No place that is noted is lost. -/
def StAll (l : List Int) (s : St) (n : Nat) : Prop := ∀ q, q < n → q + 3 ≤ l.length → q + 1 ≤ s.last (room l q) ∧ ∀ q2, q < q2 → q2 < n → q2 + 3 ≤ l.length → room l q2 = room l q → q + 1 ≤ s.ahead q2
/-- What a chain holds are places of one room. -/
def StOne (l : List Int) (s : St) : Prop := (∀ r, 0 < s.last r → room l (s.last r - 1) = r ∧ s.last r - 1 + 3 ≤ l.length) ∧ ∀ q, 0 < s.ahead q → room l (s.ahead q - 1) = room l q ∧ s.ahead q - 1 + 3 ≤ l.length
theorem all_new (l : List Int) : StAll l St.new 0 := fun q h => by omega
theorem one_new (l : List Int) : StOne l St.new := ⟨fun r h => absurd h (by simp [St.new]), fun r h => absurd h (by simp [St.new])⟩
theorem note_all {l : List Int} {s : St} {a : Nat} (hi : s.Inv a) (h : StAll l s a) : StAll l (note l s a) (a + 1) := by
  intro q hq hq3
  unfold note
  by_cases hs : l.length < a + 3
  · rw [if_pos hs]
    have hqa : q < a := by omega
    refine ⟨(h q hqa hq3).1, fun q2 h1 h2 h3 h4 => (h q hqa hq3).2 q2 h1 (by omega) h3 h4⟩
  · rw [if_neg hs]
    simp only
    by_cases hqa : q < a
    · refine ⟨?_, fun q2 h1 h2 h3 h4 => ?_⟩
      · split
        · omega
        · exact (h q hqa hq3).1
      · by_cases e : q2 = a
        · rw [if_pos e]
          subst e
          rw [h4]
          exact (h q hqa hq3).1
        · rw [if_neg e]
          exact (h q hqa hq3).2 q2 h1 (by omega) h3 h4
    · have e : q = a := by omega
      subst e
      rw [if_pos rfl]
      exact ⟨Nat.le_refl _, fun q2 h1 h2 => by omega⟩
theorem note_one {l : List Int} {s : St} {a : Nat} (h : StOne l s) : StOne l (note l s a) := by
  unfold note
  by_cases hs : l.length < a + 3
  · rw [if_pos hs]; exact h
  · rw [if_neg hs]
    refine ⟨fun r => ?_, fun q => ?_⟩
    · simp only
      by_cases e : r = room l a
      · rw [if_pos e]; intro _; subst e; simp; omega
      · rw [if_neg e]; exact h.1 r
    · simp only
      by_cases e : q = a
      · rw [if_pos e]; subst e; exact h.1 _
      · rw [if_neg e]; exact h.2 q
theorem noteAll_all {l : List Int} {s : St} {a : Nat} (hi : s.Inv a) (h : StAll l s a) : ∀ n, StAll l (noteAll l s a n) (a + n)
  | 0 => h
  | n + 1 => note_all (noteAll_inv hi n) (noteAll_all hi h n)
theorem noteAll_one {l : List Int} {s : St} {a : Nat} (h : StOne l s) : ∀ n, StOne l (noteAll l s a n)
  | 0 => h
  | n + 1 => note_one (noteAll_one h n)

theorem bestL_ge (l : List Int) (a T : Nat) (ah : Nat → Nat) : ∀ f p lg bk tr, lg ≤ (bestL l a T ah f p lg bk tr).1
  | 0, p, lg, bk, tr => Nat.le_refl _
  | f + 1, p, lg, bk, tr => by
    unfold bestL
    by_cases h0 : p = 0
    · rw [if_pos h0]; exact Nat.le_refl _
    · rw [if_neg h0]
      by_cases h1 : 32768 < a - (p - 1) ∨ (T ≤ tr ∧ 64 < a - (p - 1))
      · rw [if_pos h1]; exact Nat.le_refl _
      · rw [if_neg h1]
        by_cases h2 : lg < common l (p - 1) a
        · simp only [if_pos h2]
          by_cases h3 : common l (p - 1) a = 258
          · rw [if_pos h3]; exact Nat.le_of_lt h2
          · rw [if_neg h3]; exact Nat.le_trans (Nat.le_of_lt h2) (bestL_ge l a T ah f _ _ _ _)
        · simp only [if_neg h2]
          by_cases h3 : lg = 258
          · rw [if_pos h3]; exact Nat.le_refl _
          · rw [if_neg h3]; exact bestL_ge l a T ah f _ _ _ _
set_option maxRecDepth 100000 in
theorem bestL_finds (l : List Int) (a T : Nat) (s : St) (hi : s.Inv a) (hall : StAll l s a) (hone : StOne l s) (q : Nat) (hqa : q < a) (hq : a - q ≤ 64) (ha3 : a + 3 ≤ l.length) (h3 : Three l q a) :
    ∀ f p lg bk tr, q + 1 ≤ p → p ≤ a → p ≤ f → room l (p - 1) = room l a → p - 1 + 3 ≤ l.length → 3 ≤ (bestL l a T s.ahead f p lg bk tr).1
  | 0, p, lg, bk, tr, h1, h2, h4, h5, h6 => by omega
  | f + 1, p, lg, bk, tr, h1, h2, h4, h5, h6 => by
    unfold bestL
    rw [if_neg (by omega), if_neg (by omega)]
    by_cases e : p - 1 = q
    · have hc : 3 ≤ common l (p - 1) a := common_ge l (p - 1) a 3 (by omega) ha3 (by rw [e]; exact h3)
      by_cases h2 : lg < common l (p - 1) a
      · simp only [if_pos h2]
        by_cases h3 : common l (p - 1) a = 258
        · rw [if_pos h3]; exact hc
        · rw [if_neg h3]; exact Nat.le_trans hc (bestL_ge l a T s.ahead f _ _ _ _)
      · simp only [if_neg h2]
        by_cases h3 : lg = 258
        · rw [if_pos h3]; simp only; omega
        · rw [if_neg h3]; exact Nat.le_trans (by omega) (bestL_ge l a T s.ahead f _ _ _ _)
    · have hro := room_three h3
      have hah := (hall q hqa (by omega)).2 (p - 1) (by omega) (by omega) h6 (by rw [h5, hro])
      have hone' := hone.2 (p - 1) (by omega)
      have hle := hi.2 (p - 1)
      have go := fun lg' bk' tr' => bestL_finds l a T s hi hall hone q hqa hq ha3 h3 f (s.ahead (p - 1)) lg' bk' tr' hah (by omega) (by omega) (by rw [hone'.1, h5]) hone'.2
      by_cases h2 : lg < common l (p - 1) a
      · simp only [if_pos h2]
        by_cases h3 : common l (p - 1) a = 258
        · rw [if_pos h3]; simp only; omega
        · rw [if_neg h3]; exact go _ _ _
      · simp only [if_neg h2]
        by_cases h3 : lg = 258
        · rw [if_pos h3]; simp only; omega
        · rw [if_neg h3]; exact go _ _ _
theorem best_finds (l : List Int) (a T : Nat) (s : St) (hi : s.Inv a) (hall : StAll l s a) (hone : StOne l s) (q : Nat) (hqa : q < a) (hq : a - q ≤ 64) (ha3 : a + 3 ≤ l.length) (h3 : Three l q a) : 3 ≤ (best l s T a).1 := by
  have hl := (hall q hqa (by omega)).1
  rw [room_three h3] at hl
  have ho := hone.1 (room l a) (by omega)
  have := bestL_finds l a T s hi hall hone q hqa hq ha3 h3 (a + 1) (s.last (room l a)) 0 0 0 hl (hi.1 _) (by have := hi.1 (room l a); omega) ho.1 ho.2
  unfold best
  rw [if_neg (by omega)]
  split
  · rename_i h; unfold bestR at h; omega
  · exact this

end Go.Proofs.Ytohkjiellcikhaa.P07
