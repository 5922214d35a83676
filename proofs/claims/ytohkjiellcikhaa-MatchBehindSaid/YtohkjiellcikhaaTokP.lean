/- Right and Tell of tokens, the program's and the reference's: both are these plain functions. -/
import Derived.Test.YtohkjiellcikhaaP07x3
import Derived.Test.YtohkjiellcikhaaP07x8
import Derived.Test.YtohkjiellcikhaaP07x9
namespace Go.Proofs.Ytohkjiellcikhaa.P07
open Go.RowKit Go.Proofs.YtohkjiellcikhaaW.PrintWords Go.Proofs.YtohkjiellcikhaaW.PrintLast Go.Proofs.YtohkjiellcikhaaW.PrintMore Go.Proofs.Ytohkjiellcikhaa
set_option linter.unusedVariables false
set_option linter.unusedSimpArgs false

abbrev TK := S32
def isRun (t : TK) (told : Int) : Prop := t.f0 = 0 ∧ 3 ≤ t.f1 ∧ t.f1 ≤ 258 ∧ 1 ≤ t.f2 ∧ t.f2 ≤ 32768 ∧ t.f2 ≤ told
instance (t : TK) (told : Int) : Decidable (isRun t told) := by unfold isRun; infer_instance
def rStep (s : Option Int) (t : TK) : Option Int :=
  match s with
  | none => none
  | some told => if t.f1 = 0 ∧ t.f2 = 0 then some (told + 1) else if isRun t told then some (told + t.f1) else none
/-- May these tokens be, behind so many bytes? .. and how many bytes there are then. -/
def right (s : Option Int) (l : List TK) : Option Int := l.foldl rStep s
theorem right_none (l : List TK) : right none l = none := by
  unfold right
  induction l with
  | nil => rfl
  | cons t l ih => exact ih
theorem right_cons (s : Option Int) (t : TK) (l : List TK) : right s (t :: l) = right (rStep s t) l := rfl
theorem right_append (s : Option Int) (l m : List TK) : right s (l ++ m) = right (right s l) m := List.foldl_append ..
theorem rd_T_at (l : List TK) (i : Nat) (h : i < l.length) : rd_T32 l (i : Int) = l[i] := by
  unfold rd_T32
  simp [List.getD_eq_getElem?_getD, h]
theorem drop_at {α : Type} (l : List α) (i : Nat) (h : i < l.length) : l.drop i = l[i] :: l.drop (i + 1) := List.drop_eq_getElem_cons h
theorem wrap64_in (x : Int) (h0 : -9223372036854775808 ≤ x) (h1 : x ≤ 9223372036854775807) : wrap64 x = x := by unfold wrap64; omega
theorem right_le (l : List TK) : ∀ (told r : Int), right (some told) l = some r → told ≤ r ∧ r ≤ told + 258 * l.length := by
  induction l with
  | nil => intro told r h; have h : some told = some r := h; injection h with h; subst h; exact ⟨Int.le_refl _, by simp⟩
  | cons t l ih =>
    intro told r h
    rw [right_cons] at h
    unfold rStep at h
    simp only at h
    rw [List.length_cons]
    by_cases h1 : t.f1 = 0 ∧ t.f2 = 0
    · rw [if_pos h1] at h
      have := ih _ _ h
      omega
    · rw [if_neg h1] at h
      by_cases h2 : isRun t told
      · rw [if_pos h2] at h
        have := ih _ _ h
        obtain ⟨_, a, b, _⟩ := h2
        omega
      · rw [if_neg h2, right_none] at h
        cases h

/-! ### the program's Right -/
theorem Ev.step1 {α : Type} {g f : Nat → Option α} {r : α} (h : ∀ k, g (k + 1) = f k) (k : Ev f r) : Ev g r := Ev.step h k
theorem m_right_from (l : List TK) (hl : l.length ≤ 5864062014805) : ∀ (d i : Nat) (told : Int), l.length - i = d → i ≤ l.length → 0 ≤ told → told ≤ 258 * i →
    Ev (fun k => match_Right.l0 k told l (l.length : Int) (i : Int)) (right (some told) (l.drop i)).isSome := by
  intro d
  induction d with
  | zero =>
    intro i told hd hi h0 h1
    have : i = l.length := by omega
    subst this
    refine Ev.step (f := fun _ => some true) (fun k => ?_) (by rw [List.drop_of_length_le (Nat.le_refl _)]; exact Ev.now _)
    simp only [match_Right.l0]
    rw [if_neg (by omega)]
  | succ d ih =>
    intro i told hd hi h0 h1
    have hlt : i < l.length := by omega
    rw [drop_at l i hlt, right_cons]
    have hw : wrap64 ((i : Int) + 1) = ((i + 1 : Nat) : Int) := wrap64_in _ (by omega) (by omega)
    have J2 : ∀ (x6 : Bool) (x38 : Bool) (a b c : Int) (r : Option Int), (x38 = true → r = some (told + 1)) → (x38 = false → x6 = true → r = some (told + b) ∧ 0 ≤ b ∧ b ≤ 258) → (x38 = false → x6 = false → r = none) →
        Ev (fun k => match_Right.j2 k told x6 l (l.length : Int) (i : Int) x38 a b c) (right r (l.drop (i + 1))).isSome := by
      intro x6 x38 a b c r g1 g2 g3
      cases x38 with
      | true =>
        rw [g1 rfl]
        refine Ev.step (f := fun k => match_Right.l0 k (told + 1) l (l.length : Int) ((i + 1 : Nat) : Int)) (fun k => ?_) (ih (i + 1) (told + 1) (by omega) (by omega) (by omega) (by omega))
        rw [match_Right.j2]
        rw [if_pos rfl, wrap64_in (told + 1) (by omega) (by omega), hw]
      | false =>
        cases x6 with
        | true =>
          obtain ⟨e, hb0, hb1⟩ := g2 rfl rfl
          rw [e]
          refine Ev.step (f := fun k => match_Right.l0 k (told + b) l (l.length : Int) ((i + 1 : Nat) : Int)) (fun k => ?_) (ih (i + 1) (told + b) (by omega) (by omega) (by omega) (by omega))
          rw [match_Right.j2]
          rw [if_neg (by decide), if_pos rfl, wrap64_in (told + b) (by omega) (by omega), hw]
        | false =>
          rw [g3 rfl rfl, right_none]
          refine Ev.step (f := fun _ => some false) (fun k => ?_) (Ev.now _)
          rw [match_Right.j2]
          rw [if_neg (by decide), if_neg (by decide)]
    have J1 : ∀ (x6 : Bool) (t : TK), (x6 = true ↔ isRun t told) → Ev (fun k => match_Right.j1 k told x6 l (l.length : Int) (i : Int) t.f0 t.f1 t.f2) (right (rStep (some told) t) (l.drop (i + 1))).isSome := by
      intro x6 t hx
      have hr : rStep (some told) t = if t.f1 = 0 ∧ t.f2 = 0 then some (told + 1) else if isRun t told then some (told + t.f1) else none := rfl
      by_cases h1 : t.f1 = 0
      · refine Ev.step (f := fun k => match_Right.j2 k told x6 l (l.length : Int) (i : Int) (t.f2 == 0) t.f0 t.f1 t.f2) (fun k => by simp only [match_Right.j1]; rw [if_pos h1]) (J2 _ _ _ _ _ _ ?_ ?_ ?_)
        · intro h2
          rw [beq_iff_eq] at h2
          rw [hr, if_pos ⟨h1, h2⟩]
        · intro h2 h3
          exact absurd (hx.1 h3).2.1 (by omega)
        · intro h2 h3
          rw [beq_eq_false_iff_ne] at h2
          rw [hr, if_neg (fun h => h2 h.2), if_neg (fun h => by have := hx.2 h; rw [h3] at this; cases this)]
      · refine Ev.step (f := fun k => match_Right.j2 k told x6 l (l.length : Int) (i : Int) false t.f0 t.f1 t.f2) (fun k => by simp only [match_Right.j1]; rw [if_neg h1]) (J2 _ _ _ _ _ _ ?_ ?_ ?_)
        · intro h2; cases h2
        · intro _ h3
          have := hx.1 h3
          rw [hr, if_neg (fun h => h1 h.1), if_pos this]
          exact ⟨rfl, by have := this.2.1; omega, this.2.2.1⟩
        · intro _ h3
          rw [hr, if_neg (fun h => h1 h.1), if_neg (fun h => by have := hx.2 h; rw [h3] at this; cases this)]
    have hrd := rd_T_at l i hlt
    have h0' : (0 : Int) ≤ (i : Int) := by omega
    have hi' : (i : Int) < (l.length : Int) := by omega
    have hmn : mn told 32768 = if told ≤ 32768 then told else 32768 := by unfold mn; split <;> split <;> omega
    generalize l[i] = t at *
    by_cases c0 : t.f0 = 0
    · by_cases c1 : t.f1 ≥ 3
      · by_cases c2 : t.f1 ≤ 258
        · by_cases c3 : t.f2 ≥ 1
          · refine Ev.step (f := fun k => match_Right.j1 k told (decide (t.f2 ≤ mn told 32768)) l (l.length : Int) (i : Int) t.f0 t.f1 t.f2) (fun k => ?_) (J1 _ t ?_)
            · simp only [match_Right.l0]
              rw [if_pos hi', if_pos h0', if_pos hi', hrd, if_pos c0, if_pos c1, if_pos c2, if_pos c3]
            · rw [decide_eq_true_eq, hmn]
              unfold isRun
              split <;> constructor <;> intro h <;> (try omega)
          · refine Ev.step (f := fun k => match_Right.j1 k told false l (l.length : Int) (i : Int) t.f0 t.f1 t.f2) (fun k => ?_) (J1 _ t ⟨(fun h => by cases h), fun h => absurd h.2.2.2.1 c3⟩)
            simp only [match_Right.l0]
            rw [if_pos hi', if_pos h0', if_pos hi', hrd, if_pos c0, if_pos c1, if_pos c2, if_neg c3]
        · refine Ev.step (f := fun k => match_Right.j1 k told false l (l.length : Int) (i : Int) t.f0 t.f1 t.f2) (fun k => ?_) (J1 _ t ⟨(fun h => by cases h), fun h => absurd h.2.2.1 c2⟩)
          simp only [match_Right.l0]
          rw [if_pos hi', if_pos h0', if_pos hi', hrd, if_pos c0, if_pos c1, if_neg c2]
      · refine Ev.step (f := fun k => match_Right.j1 k told false l (l.length : Int) (i : Int) t.f0 t.f1 t.f2) (fun k => ?_) (J1 _ t ⟨(fun h => by cases h), fun h => absurd h.2.1 c1⟩)
        simp only [match_Right.l0]
        rw [if_pos hi', if_pos h0', if_pos hi', hrd, if_pos c0, if_neg c1]
    · refine Ev.step (f := fun k => match_Right.j1 k told false l (l.length : Int) (i : Int) t.f0 t.f1 t.f2) (fun k => ?_) (J1 _ t ⟨(fun h => by cases h), fun h => absurd h.1 c0⟩)
      simp only [match_Right.l0]
      rw [if_pos hi', if_pos h0', if_pos hi', hrd, if_neg c0]
theorem m_right (l : List TK) (hl : l.length ≤ 5864062014805) : Ev (fun k => match_Right.f k l) (right (some 0) l).isSome := m_right_from l hl l.length 0 0 (by omega) (by omega) (by omega) (by omega)

/-! ### the reference's -/
theorem r_right_from (l : List TK) (hl : l.length ≤ 5864062014805) : ∀ (d i : Nat) (told : Int), l.length - i = d → i ≤ l.length → 0 ≤ told → told ≤ 258 * i →
    Ev (fun k => wainloadref07_Right.l0 k l told (i : Int)) (right (some told) (l.drop i)).isSome := by
  intro d
  induction d with
  | zero =>
    intro i told hd hi h0 h1
    have : i = l.length := by omega
    subst this
    refine Ev.step (f := fun _ => some true) (fun k => ?_) (by rw [List.drop_of_length_le (Nat.le_refl _)]; exact Ev.now _)
    simp only [wainloadref07_Right.l0]
    rw [if_neg (by omega)]
  | succ d ih =>
    intro i told hd hi h0 h1
    have hlt : i < l.length := by omega
    rw [drop_at l i hlt, right_cons]
    have hw : wrap64 ((i : Int) + 1) = ((i + 1 : Nat) : Int) := wrap64_in _ (by omega) (by omega)
    have hrd := rd_T_at l i hlt
    have h0' : (0 : Int) ≤ (i : Int) := by omega
    have hi' : (i : Int) < (l.length : Int) := by omega
    generalize l[i] = t at *
    have hr : rStep (some told) t = if t.f1 = 0 ∧ t.f2 = 0 then some (told + 1) else if isRun t told then some (told + t.f1) else none := rfl
    have J1 : ∀ x23 : Bool, (x23 = true ↔ (t.f1 = 0 ∧ t.f2 = 0)) → Ev (fun k => wainloadref07_Right.j1 k l told (i : Int) x23 t.f0 t.f1 t.f2) (right (rStep (some told) t) (l.drop (i + 1))).isSome := by
      intro x hx
      cases x with
      | true =>
        rw [hr, if_pos (hx.1 rfl)]
        refine Ev.step (f := fun k => wainloadref07_Right.l0 k l (told + 1) ((i + 1 : Nat) : Int)) (fun k => ?_) (ih (i + 1) (told + 1) (by omega) (by omega) (by omega) (by omega))
        rw [wainloadref07_Right.j1]
        rw [if_pos rfl, wrap64_in (told + 1) (by omega) (by omega), hw]
      | false =>
        rw [hr, if_neg (fun h => by have := hx.2 h; cases this)]
        have no : ∀ (hn : ¬ isRun t told) (h : ∀ k, wainloadref07_Right.j1 (k + 1) l told (i : Int) false t.f0 t.f1 t.f2 = some false), Ev (fun k => wainloadref07_Right.j1 k l told (i : Int) false t.f0 t.f1 t.f2) (right (if isRun t told then some (told + t.f1) else none) (l.drop (i + 1))).isSome := by
          intro hn h
          rw [if_neg hn, right_none]
          exact Ev.step (f := fun _ => some false) h (Ev.now _)
        by_cases c0 : t.f0 = 0
        · by_cases c1 : t.f1 < 3
          · exact no (fun h => by have := h.2.1; omega) (fun k => by rw [wainloadref07_Right.j1]; rw [if_neg (by decide), if_pos c0, if_pos c1])
          · by_cases c2 : t.f1 > 258
            · exact no (fun h => by have := h.2.2.1; omega) (fun k => by rw [wainloadref07_Right.j1]; rw [if_neg (by decide), if_pos c0, if_neg c1, if_pos c2])
            · by_cases c3 : t.f2 < 1
              · exact no (fun h => by have := h.2.2.2.1; omega) (fun k => by rw [wainloadref07_Right.j1]; rw [if_neg (by decide), if_pos c0, if_neg c1, if_neg c2, if_pos c3])
              · by_cases c4 : t.f2 > 32768
                · exact no (fun h => by have := h.2.2.2.2.1; omega) (fun k => by rw [wainloadref07_Right.j1]; rw [if_neg (by decide), if_pos c0, if_neg c1, if_neg c2, if_neg c3, if_pos c4])
                · by_cases c5 : t.f2 > told
                  · exact no (fun h => by have := h.2.2.2.2.2; omega) (fun k => by rw [wainloadref07_Right.j1]; rw [if_neg (by decide), if_pos c0, if_neg c1, if_neg c2, if_neg c3, if_neg c4, if_pos c5])
                  · rw [if_pos ⟨c0, by omega, by omega, by omega, by omega, by omega⟩]
                    refine Ev.step (f := fun k => wainloadref07_Right.l0 k l (told + t.f1) ((i + 1 : Nat) : Int)) (fun k => ?_) (ih (i + 1) (told + t.f1) (by omega) (by omega) (by omega) (by omega))
                    rw [wainloadref07_Right.j1]
                    rw [if_neg (by decide), if_pos c0, if_neg c1, if_neg c2, if_neg c3, if_neg c4, if_neg c5, wrap64_in (told + t.f1) (by omega) (by omega), hw]
        · exact no (fun h => c0 h.1) (fun k => by rw [wainloadref07_Right.j1]; rw [if_neg (by decide), if_neg c0])
    by_cases c : t.f1 = 0
    · refine Ev.step (f := fun k => wainloadref07_Right.j1 k l told (i : Int) (t.f2 == 0) t.f0 t.f1 t.f2) (fun k => ?_) (J1 _ (by rw [beq_iff_eq]; exact ⟨fun h => ⟨c, h⟩, fun h => h.2⟩))
      simp only [wainloadref07_Right.l0]
      rw [if_pos hi', if_pos h0', hrd, if_pos c]
    · refine Ev.step (f := fun k => wainloadref07_Right.j1 k l told (i : Int) false t.f0 t.f1 t.f2) (fun k => ?_) (J1 _ ⟨(fun h => by cases h), fun h => absurd h.1 c⟩)
      simp only [wainloadref07_Right.l0]
      rw [if_pos hi', if_pos h0', hrd, if_neg c]
theorem r_right (l : List TK) (hl : l.length ≤ 5864062014805) : Ev (fun k => wainloadref07_Right.f k l) (right (some 0) l).isSome := r_right_from l hl l.length 0 0 (by omega) (by omega) (by omega) (by omega)

end Go.Proofs.Ytohkjiellcikhaa.P07
