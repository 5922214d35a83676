/- MatchBytes, without Go and memory. -/
import Derived.Test.YtohkjiellcikhaaP07x12
import Derived.Test.YtohkjiellcikhaaMatchR
namespace Go.Proofs.Ytohkjiellcikhaa.Pure
open Go.RowKit Go.Proofs.Ytohkjiellcikhaa.P07 Go.Proofs.YtohkjiellcikhaaW.PrintWords Go.Proofs.YtohkjiellcikhaaW.PrintLast Go.Proofs.Ytohkjiellcikhaa

theorem bytes_loop (l : List Int) (hB : MF.AllB l) (hl : l.length ≤ 5000000000000) (t : List TK) (ht : t = (List.range l.length).map fun i => toS ⟨MF.byt l i, 0, 0⟩) : ∀ (d i : Nat), l.length - i = d → i ≤ l.length →
    Ev (fun k => wainloadlaw07_MatchBytes.l0 k l t (t.length : Int) (i : Int)) true := by
  have hlen : t.length = l.length := by rw [ht]; simp
  intro d
  induction d with
  | zero =>
    intro i hd hi
    refine Ev.step (f := fun _ => some true) (fun k => ?_) (Ev.now _)
    rw [wainloadlaw07_MatchBytes.l0, if_neg (by omega)]
    rfl
  | succ d ih =>
    intro i hd hi
    refine Ev.step (f := fun k => wainloadlaw07_MatchBytes.l0 k l t (t.length : Int) ((i + 1 : Nat) : Int)) (fun k => ?_) (ih (i + 1) (by omega) (by omega))
    have hw : wrap64 ((i : Int) + 1) = ((i + 1 : Nat) : Int) := wrap64_in _ (by omega) (by omega)
    have hrd : rd_T32 t (i : Int) = toS ⟨MF.byt l i, 0, 0⟩ := by
      rw [rd_T_at t i (by omega)]
      subst ht
      simp
    have hrb : rd l (i : Int) = (MF.byt l i : Int) := by
      unfold rd
      rw [Int.toNat_natCast]
      exact MF.byt_eq hB i (by omega)
    rw [wainloadlaw07_MatchBytes.l0, if_pos (by omega), if_pos (by omega), if_pos (by omega), if_pos (by omega), hrd, hrb, hw]
    simp [toS]

theorem MatchBytes_upto (l : List Int) (lev : Int) (_ : l.length ≤ maxLen) (hl1 : l.length ≤ 1048575) (hw : ∀ x ∈ l, (Lit.int .u8 x).wf = true) (_ : (Lit.int .i64 lev).wf = true) : ∃ k, wainloadlaw07_MatchBytes.f k l lev = some true := by
  have hl : l.length ≤ 5000000000000 := by omega
  apply Ev.rounds
  unfold wainloadlaw07_MatchBytes.f
  have hmn : ¬ 0 < mn lev 0 := by unfold mn; split <;> omega
  obtain ⟨hf, hB⟩ := find_f l (mn lev 0) hw hl
  have e : MF.find l (mn lev 0) = (List.range l.length).map fun i => ⟨MF.byt l i, 0, 0⟩ := by
    have := findL_bytes l (mn lev 0) hmn (MF.tries (mn lev 0)) (l.length + 1) 0 MF.St.new [] (by omega) (by omega)
    simp only [List.nil_append, Nat.sub_zero, Nat.zero_add] at this
    exact this
  simp only [hf, Option.bind_some, e, List.map_map]
  have hlen : ((List.range l.length).map (toS ∘ fun i => (⟨MF.byt l i, 0, 0⟩ : MF.Tok))).length = l.length := by simp
  simp only [hlen, if_true]
  have := bytes_loop l hB hl _ rfl l.length 0 (by omega) (by omega)
  rw [show ((List.range l.length).map fun i => toS ⟨MF.byt l i, 0, 0⟩) = (List.range l.length).map (toS ∘ fun i => (⟨MF.byt l i, 0, 0⟩ : MF.Tok)) from rfl, hlen] at this
  exact this

end Go.Proofs.Ytohkjiellcikhaa.Pure
