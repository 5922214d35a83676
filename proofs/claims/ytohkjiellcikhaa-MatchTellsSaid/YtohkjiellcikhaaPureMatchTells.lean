/- MatchTells, without Go and memory: Tell tells the tokens that are right, and refuses the others. -/
import Derived.Test.YtohkjiellcikhaaP07x10
import Derived.Test.YtohkjiellcikhaaMatchR
import Derived.Test.YtohkjiellcikhaaOpens07
namespace Go.Proofs.Ytohkjiellcikhaa.Pure
open Go.RowKit Go.Proofs.Ytohkjiellcikhaa.P07 Go.Proofs.YtohkjiellcikhaaW.PrintWords Go.Proofs.YtohkjiellcikhaaW.PrintLast Go.Proofs.Ytohkjiellcikhaa
set_option linter.unusedVariables false

theorem MatchTells (l : List S32) (hw : l.length ≤ maxLen ∧ l.length * 24 ≤ 140737488351232 ∧ ∀ x ∈ l, wfTok x) : ∃ k, wainloadlaw07_MatchTells.f k l = some true := by
  clear hw
  apply Ev.rounds
  unfold wainloadlaw07_MatchTells.f
  have hal : wainloadlaw07_alive.f = some true := rfl
  by_cases hl : (l.length : Int) > 400
  · simp only [if_pos hl, hal, Option.bind_some]
    exact Ev.now _
  · simp only [if_neg hl]
    have hR := r_right l (by omega)
    have hM := m_right l (by omega)
    cases hr : right (some 0) l with
    | none =>
      rw [hr] at hR hM
      refine Ev.bind (m_tell_no l (by omega) hr) ?_
      refine Ev.bind hR ?_
      simp only [Option.isSome_none, bne_self_eq_false, Bool.false_eq_true, if_false]
      refine Ev.bind hM ?_
      refine Ev.step (f := fun _ => some true) (fun k => ?_) (Ev.now _)
      rw [wainloadlaw07_MatchTells.j0, if_neg (by decide), if_neg (by decide), hal, Option.bind_some, if_pos rfl]
      rfl
    | some R =>
      rw [hr] at hR hM
      refine Ev.bind (m_tell_yes l (by omega) R hr) ?_
      refine Ev.bind hR ?_
      simp only [Option.isSome_some, bne_self_eq_false, Bool.false_eq_true, if_false]
      refine Ev.bind hM ?_
      refine Ev.step (f := fun k => (wainloadref07_Tell.f k l).bind fun t137 => (some ((strOfNums (tell [] l)).toList == (strOfNums t137).toList))) (fun k => ?_) ?_
      · rw [wainloadlaw07_MatchTells.j0, if_neg (by simp), if_pos rfl, hal, Option.bind_some, if_pos rfl]
      · refine Ev.bind (r_tell l (by omega) R hr) ?_
        rw [beq_self_eq_true]
        exact Ev.now _

end Go.Proofs.Ytohkjiellcikhaa.Pure
