/- Tell of tokens that are right, the program's and the reference's: both are this plain function. -/
import Derived.Test.YtohkjiellcikhaaTokP
namespace Go.Proofs.Ytohkjiellcikhaa.P07
open Go.RowKit Go.Proofs.YtohkjiellcikhaaW.PrintWords Go.Proofs.YtohkjiellcikhaaW.PrintLast Go.Proofs.YtohkjiellcikhaaW.PrintMore Go.Proofs.Ytohkjiellcikhaa
set_option linter.unusedVariables false
set_option linter.unusedSimpArgs false

def cp (back : Int) : Nat → List Int → List Int
  | 0, out => out
  | n + 1, out => cp back n (out ++ [rd out ((out.length : Int) - back)])
theorem cp_length (back : Int) : ∀ (n : Nat) (out : List Int), (cp back n out).length = out.length + n
  | 0, _ => rfl
  | n + 1, out => by rw [cp, cp_length back n]; simp; omega
def tStep (out : List Int) (t : TK) : List Int := if t.f1 = 0 then out ++ [t.f0] else cp t.f2 t.f1.toNat out
/-- What tokens tell, behind what was told. -/
def tell (out : List Int) (l : List TK) : List Int := l.foldl tStep out
theorem tell_cons (out : List Int) (t : TK) (l : List TK) : tell out (t :: l) = tell (tStep out t) l := rfl
theorem tell_append (out : List Int) (l m : List TK) : tell out (l ++ m) = tell (tell out l) m := List.foldl_append ..
theorem rStep_len (out : List Int) (t : TK) (r : Int) (h : rStep (some (out.length : Int)) t = some r) : ((tStep out t).length : Int) = r ∧ (t.f1 = 0 ∨ (3 ≤ t.f1 ∧ t.f1 ≤ 258 ∧ 1 ≤ t.f2 ∧ t.f2 ≤ out.length)) := by
  unfold rStep at h
  simp only at h
  unfold tStep
  by_cases h1 : t.f1 = 0 ∧ t.f2 = 0
  · rw [if_pos h1] at h
    injection h with h
    rw [if_pos h1.1]
    exact ⟨by simp; omega, .inl h1.1⟩
  · rw [if_neg h1] at h
    by_cases h2 : isRun t out.length
    · rw [if_pos h2] at h
      injection h with h
      obtain ⟨_, a, b, c, _, e⟩ := h2
      rw [if_neg (by omega), cp_length]
      exact ⟨by omega, .inr ⟨a, b, c, e⟩⟩
    · rw [if_neg h2] at h; cases h
theorem tell_len (l : List TK) : ∀ (out : List Int) (r : Int), right (some (out.length : Int)) l = some r → ((tell out l).length : Int) = r := by
  induction l with
  | nil => intro out r h; have h : some (out.length : Int) = some r := h; injection h
  | cons t l ih =>
    intro out r h
    rw [right_cons] at h
    rw [tell_cons]
    cases hs : rStep (some (out.length : Int)) t with
    | none => rw [hs, right_none] at h; cases h
    | some q =>
      have := (rStep_len out t q hs).1
      rw [hs] at h
      exact ih _ r (by rw [this]; exact h)

theorem m_copy {α : Type} (L1 : Nat → List Int → Int → Option α) (L0 : Nat → List Int → Option α) (f1 f2 : Int) (r : α)
    (hstep : ∀ k (x4 : List Int) (c : Int), c < f1 → 0 ≤ wrap64 ((x4.length : Int) - f2) → wrap64 ((x4.length : Int) - f2) < (x4.length : Int) → x4.length < 140737488355328 → L1 (k + 1) x4 c = L1 k (x4 ++ [rd x4 (wrap64 ((x4.length : Int) - f2))]) (wrap64 (c + 1)))
    (hend : ∀ k (x4 : List Int) (c : Int), ¬ c < f1 → L1 (k + 1) x4 c = L0 k x4) :
    ∀ (d : Nat) (x4 : List Int) (c : Int), (f1 - c).toNat = d → 0 ≤ c → c ≤ f1 → f1 ≤ 258 → 1 ≤ f2 → f2 ≤ x4.length → x4.length + d < 140737488355328 → Ev (fun k => L0 k (cp f2 d x4)) r → Ev (fun k => L1 k x4 c) r := by
  intro d
  induction d with
  | zero =>
    intro x4 c hd hc0 hc1 hf _ _ _ H
    exact Ev.step (fun k => hend k x4 c (by omega)) H
  | succ d ih =>
    intro x4 c hd hc0 hc1 hf h1 h2 hl H
    have hw : wrap64 ((x4.length : Int) - f2) = (x4.length : Int) - f2 := wrap64_in _ (by omega) (by omega)
    have hw2 : wrap64 (c + 1) = c + 1 := wrap64_in _ (by omega) (by omega)
    refine Ev.step (f := fun k => L1 k (x4 ++ [rd x4 ((x4.length : Int) - f2)]) (c + 1)) (fun k => ?_) (ih _ (c + 1) (by omega) (by omega) (by omega) hf h1 (by simp; omega) (by simp; omega) H)
    rw [hstep k x4 c (by omega) (by omega) (by omega) (by omega), hw, hw2]

theorem m_tell_from (l : List TK) (hl : l.length ≤ 500000000000) : ∀ (d i : Nat) (out : List Int) (R : Int), l.length - i = d → i ≤ l.length → out.length ≤ 258 * i → right (some (out.length : Int)) (l.drop i) = some R →
    Ev (fun k => match_Tell.l0 k out l (l.length : Int) (i : Int)) (tell out (l.drop i), true) := by
  intro d
  induction d with
  | zero =>
    intro i out R hd hi h0 h1
    have : i = l.length := by omega
    subst this
    refine Ev.step (f := fun _ => some (out, true)) (fun k => ?_) (by rw [List.drop_of_length_le (Nat.le_refl _)]; exact Ev.now _)
    simp only [match_Tell.l0]
    rw [if_neg (by omega)]
  | succ d ih =>
    intro i out R hd hi h0 h1
    have hlt : i < l.length := by omega
    rw [drop_at l i hlt, right_cons] at h1
    rw [drop_at l i hlt, tell_cons]
    have hw : wrap64 ((i : Int) + 1) = ((i + 1 : Nat) : Int) := wrap64_in _ (by omega) (by omega)
    have hrd := rd_T_at l i hlt
    have h0' : (0 : Int) ≤ (i : Int) := by omega
    have hi' : (i : Int) < (l.length : Int) := by omega
    generalize l[i] = t at *
    cases hs : rStep (some (out.length : Int)) t with
    | none => rw [hs, right_none] at h1; cases h1
    | some q =>
      obtain ⟨e1, e2⟩ := rStep_len out t q hs
      rw [hs, ← e1] at h1
      have hlen : (tStep out t).length ≤ 258 * (i + 1) := by
        unfold tStep
        split
        · simp; omega
        · rw [cp_length]; rcases e2 with e | ⟨a, b, c, e⟩ <;> omega
      have IH := ih (i + 1) (tStep out t) R (by omega) (by omega) hlen h1
      rcases e2 with e | ⟨a, b, c, e⟩
      · have ht : tStep out t = out ++ [t.f0] := by unfold tStep; rw [if_pos e]
        rw [ht] at IH ⊢
        refine Ev.step (f := fun k => match_Tell.j1 k (out ++ [t.f0]) l (l.length : Int) (i : Int) t.f0 t.f1 t.f2) (fun k => ?_) ?_
        · simp only [match_Tell.l0]
          rw [if_pos hi', if_pos h0', if_pos hi', hrd, if_pos e, if_pos (by omega)]
        · refine Ev.step (f := fun k => match_Tell.l1 k (out ++ [t.f0]) l (l.length : Int) (i : Int) t.f1 0 t.f0 t.f1 t.f2) (fun k => by rw [match_Tell.j1]) ?_
          refine Ev.step (f := fun k => match_Tell.l0 k (out ++ [t.f0]) l (l.length : Int) ((i + 1 : Nat) : Int)) (fun k => ?_) IH
          rw [match_Tell.l1, if_neg (by omega), hw]
      · have ht : tStep out t = cp t.f2 t.f1.toNat out := by unfold tStep; rw [if_neg (by omega)]
        rw [ht] at IH ⊢
        refine Ev.step (f := fun k => match_Tell.j1 k out l (l.length : Int) (i : Int) t.f0 t.f1 t.f2) (fun k => ?_) ?_
        · simp only [match_Tell.l0]
          rw [if_pos hi', if_pos h0', if_pos hi', hrd, if_neg (by omega)]
        · refine Ev.step (f := fun k => match_Tell.l1 k out l (l.length : Int) (i : Int) t.f1 0 t.f0 t.f1 t.f2) (fun k => by rw [match_Tell.j1]) ?_
          refine m_copy (fun k x4 c => match_Tell.l1 k x4 l (l.length : Int) (i : Int) t.f1 c t.f0 t.f1 t.f2) (fun k x4 => match_Tell.l0 k x4 l (l.length : Int) ((i + 1 : Nat) : Int)) t.f1 t.f2 _ ?_ ?_ t.f1.toNat out 0 (by omega) (by omega) (by omega) b c e (by omega) IH
          · intro k x4 c k1 k2 k3 k4
            show match_Tell.l1 (k + 1) x4 l (l.length : Int) (i : Int) t.f1 c t.f0 t.f1 t.f2 = _
            rw [match_Tell.l1, if_pos k1, if_pos k2, if_pos k3, if_pos k4]
          · intro k x4 c k1
            show match_Tell.l1 (k + 1) x4 l (l.length : Int) (i : Int) t.f1 c t.f0 t.f1 t.f2 = _
            rw [match_Tell.l1, if_neg k1, hw]
theorem m_tell_yes (l : List TK) (hl : l.length ≤ 500000000000) (R : Int) (h : right (some 0) l = some R) : Ev (fun k => match_Tell.f k l) (tell [] l, true) := by
  unfold match_Tell.f
  refine Ev.bind (m_right l (by omega)) ?_
  rw [h]
  exact m_tell_from l hl l.length 0 [] R (by omega) (by omega) (by simp) h
theorem m_tell_no (l : List TK) (hl : l.length ≤ 500000000000) (h : right (some 0) l = none) : Ev (fun k => match_Tell.f k l) ([], false) := by
  unfold match_Tell.f
  refine Ev.bind (m_right l (by omega)) ?_
  rw [h]
  exact Ev.now _

theorem r_tell_from (l : List TK) (hl : l.length ≤ 500000000000) : ∀ (d i : Nat) (out : List Int) (R : Int), l.length - i = d → i ≤ l.length → out.length ≤ 258 * i → right (some (out.length : Int)) (l.drop i) = some R →
    Ev (fun k => wainloadref07_Tell.l0 k l out (i : Int)) (tell out (l.drop i)) := by
  intro d
  induction d with
  | zero =>
    intro i out R hd hi h0 h1
    have : i = l.length := by omega
    subst this
    refine Ev.step (f := fun _ => some out) (fun k => ?_) (by rw [List.drop_of_length_le (Nat.le_refl _)]; exact Ev.now _)
    simp only [wainloadref07_Tell.l0]
    rw [if_neg (by omega)]
  | succ d ih =>
    intro i out R hd hi h0 h1
    have hlt : i < l.length := by omega
    rw [drop_at l i hlt, right_cons] at h1
    rw [drop_at l i hlt, tell_cons]
    have hw : wrap64 ((i : Int) + 1) = ((i + 1 : Nat) : Int) := wrap64_in _ (by omega) (by omega)
    have hrd := rd_T_at l i hlt
    have h0' : (0 : Int) ≤ (i : Int) := by omega
    have hi' : (i : Int) < (l.length : Int) := by omega
    generalize l[i] = t at *
    cases hs : rStep (some (out.length : Int)) t with
    | none => rw [hs, right_none] at h1; cases h1
    | some q =>
      obtain ⟨e1, e2⟩ := rStep_len out t q hs
      rw [hs, ← e1] at h1
      have hlen : (tStep out t).length ≤ 258 * (i + 1) := by
        unfold tStep
        split
        · simp; omega
        · rw [cp_length]; rcases e2 with e | ⟨a, b, c, e⟩ <;> omega
      have IH := ih (i + 1) (tStep out t) R (by omega) (by omega) hlen h1
      rcases e2 with e | ⟨a, b, c, e⟩
      · have ht : tStep out t = out ++ [t.f0] := by unfold tStep; rw [if_pos e]
        rw [ht] at IH ⊢
        refine Ev.step (f := fun k => wainloadref07_Tell.j1 k l (out ++ [t.f0]) (i : Int)) (fun k => ?_) ?_
        · simp only [wainloadref07_Tell.l0]
          rw [if_pos hi', if_pos h0', hrd, if_pos e, if_pos (by omega)]
        · refine Ev.step (f := fun k => wainloadref07_Tell.l1 k l (out ++ [t.f0]) (i : Int) 0) (fun k => by rw [wainloadref07_Tell.j1]) ?_
          refine Ev.step (f := fun k => wainloadref07_Tell.l0 k l (out ++ [t.f0]) ((i + 1 : Nat) : Int)) (fun k => ?_) IH
          rw [wainloadref07_Tell.l1, hrd, if_pos h0', if_pos hi', if_neg (by omega), hw]
      · have ht : tStep out t = cp t.f2 t.f1.toNat out := by unfold tStep; rw [if_neg (by omega)]
        rw [ht] at IH ⊢
        refine Ev.step (f := fun k => wainloadref07_Tell.j1 k l out (i : Int)) (fun k => ?_) ?_
        · simp only [wainloadref07_Tell.l0]
          rw [if_pos hi', if_pos h0', hrd, if_neg (by omega)]
        · refine Ev.step (f := fun k => wainloadref07_Tell.l1 k l out (i : Int) 0) (fun k => by rw [wainloadref07_Tell.j1]) ?_
          refine m_copy (fun k x4 c => wainloadref07_Tell.l1 k l x4 (i : Int) c) (fun k x4 => wainloadref07_Tell.l0 k l x4 ((i + 1 : Nat) : Int)) t.f1 t.f2 _ ?_ ?_ t.f1.toNat out 0 (by omega) (by omega) (by omega) b c e (by omega) IH
          · intro k x4 c k1 k2 k3 k4
            show wainloadref07_Tell.l1 (k + 1) l x4 (i : Int) c = _
            rw [wainloadref07_Tell.l1, hrd, if_pos h0', if_pos hi', if_pos k1, if_pos k2, if_pos k3, if_pos k4]
          · intro k x4 c k1
            show wainloadref07_Tell.l1 (k + 1) l x4 (i : Int) c = _
            rw [wainloadref07_Tell.l1, hrd, if_pos h0', if_pos hi', if_neg k1, hw]
theorem r_tell (l : List TK) (hl : l.length ≤ 500000000000) (R : Int) (h : right (some 0) l = some R) : Ev (fun k => wainloadref07_Tell.f k l) (tell [] l) :=
  r_tell_from l hl l.length 0 [] R (by omega) (by omega) (by simp) h

end Go.Proofs.Ytohkjiellcikhaa.P07
