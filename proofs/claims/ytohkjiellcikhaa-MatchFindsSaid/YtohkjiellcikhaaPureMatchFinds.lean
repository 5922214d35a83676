/- MatchFinds, without Go and memory: the tokens that Find makes are right, tell the data, and are not more than its bytes. -/
import Derived.Test.YtohkjiellcikhaaP07x11
import Derived.Test.YtohkjiellcikhaaMatchR
namespace Go.Proofs.Ytohkjiellcikhaa.Pure
open Go.RowKit Go.Proofs.Ytohkjiellcikhaa.P07 Go.Proofs.YtohkjiellcikhaaW.PrintWords Go.Proofs.YtohkjiellcikhaaW.PrintLast Go.Proofs.Ytohkjiellcikhaa

theorem MatchFinds : wainloadlaw07_MatchFinds.Pure := by
  intro l lev h1 h2 hw _
  apply Ev.rounds
  unfold wainloadlaw07_MatchFinds.f
  have hal : wainloadlaw07_alive.f = some true := rfl
  by_cases hl : (l.length : Int) > 5000
  · simp only [if_pos hl, hal, Option.bind_some]
    exact Ev.now _
  · simp only [if_neg hl]
    obtain ⟨hf, hB⟩ := find_f l lev hw (by omega)
    obtain ⟨r1, r2, r3⟩ := find_right l hB lev
    have hlen : ((MF.find l lev).map toS).length = (MF.find l lev).length := List.length_map ..
    simp only [hf, hal, Option.bind_some, if_true]
    have hr := r_right ((MF.find l lev).map toS) (by omega)
    rw [r1] at hr
    refine Ev.bind hr ?_
    simp only [Option.isSome_some, if_true]
    refine Ev.bind (r_tell _ (by omega) _ r1) ?_
    rw [r2, if_pos rfl]
    have : decide ((((MF.find l lev).map toS).length : Int) ≤ (l.length : Int)) = true := decide_eq_true (by omega)
    rw [this]
    exact Ev.now _

end Go.Proofs.Ytohkjiellcikhaa.Pure
