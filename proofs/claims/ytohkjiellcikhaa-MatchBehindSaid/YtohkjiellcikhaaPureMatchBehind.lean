/- MatchBehind, without Go and memory: bytes behind tokens that are right are told behind what these tell. -/
import Derived.Test.YtohkjiellcikhaaP07x18
import Derived.Test.YtohkjiellcikhaaMatchR
import Derived.Test.YtohkjiellcikhaaOpens07
namespace Go.Proofs.Ytohkjiellcikhaa.Pure
open Go.RowKit Go.Proofs.Ytohkjiellcikhaa.P07 Go.Proofs.YtohkjiellcikhaaW.PrintWords Go.Proofs.YtohkjiellcikhaaW.PrintLast Go.Proofs.Ytohkjiellcikhaa
set_option linter.unusedVariables false

def byTok (b : Int) : S32 := ⟨b, 0, 0⟩
theorem right_bytes : ∀ (m : List Int) (R : Int), right (some R) (m.map byTok) = some (R + m.length)
  | [], R => by simp [right]
  | b :: m, R => by
    rw [List.map_cons, right_cons]
    have : rStep (some R) (byTok b) = some (R + 1) := by unfold rStep byTok; simp
    rw [this, right_bytes m (R + 1)]
    simp
    omega
theorem tell_bytes : ∀ (m : List Int) (out : List Int), tell out (m.map byTok) = out ++ m
  | [], out => by simp [tell]
  | b :: m, out => by
    rw [List.map_cons, tell_cons]
    have : tStep out (byTok b) = out ++ [b] := by unfold tStep byTok; simp
    rw [this, tell_bytes m]
    simp
theorem strOfNums_cat (a b : List Int) : (strOfNums a ++ strOfNums b).toList = (strOfNums (a ++ b)).toList := by
  congr 1
  apply ByteArray.ext
  rw [ByteArray.data_append]
  simp [strOfNums]
theorem strOfNums_size (a : List Int) : (strOfNums a).size = a.length := by
  show (strOfNums a).data.size = a.length
  simp [strOfNums]

theorem behind_end (l : List S32) (m : List Int) (hl : l.length ≤ 400) (hm : m.length ≤ 2000) (R : Int) (hR : right (some 0) l = some R) :
    ∀ d i : Nat, m.length - i = d → i ≤ m.length → Ev (fun k => wainloadlaw07_MatchBehind.l0 k l m (l ++ (m.take i).map byTok) m (m.length : Int) (i : Int)) true := by
  have hal : wainloadlaw07_alive.f = some true := rfl
  intro d
  induction d with
  | zero =>
    intro i hd hi
    have e : i = m.length := by omega
    subst e
    rw [List.take_length]
    have hr : right (some 0) (l ++ m.map byTok) = some (R + m.length) := by rw [right_append, hR, right_bytes]
    have ht : tell [] (l ++ m.map byTok) = tell [] l ++ m := by rw [tell_append, tell_bytes]
    have hlen : (l ++ m.map byTok).length = l.length + m.length := by simp
    have hT := m_tell_yes (l ++ m.map byTok) (by omega) _ hr
    rw [ht] at hT
    have hRr := right_le l 0 R hR
    have hTl := tell_len l [] R hR
    have hlt : (tell [] l).length ≤ 103200 := by omega
    have hs1 : (strOfNums (tell [] l)).size = (tell [] l).length := strOfNums_size _
    have hs2 : (strOfNums m).size = m.length := strOfNums_size _
    refine Ev.step (f := fun k => (match_Tell.f k (l ++ m.map byTok)).bind fun bt207 => if bt207.2 = true then ((wainloadref07_Tell.f k l).bind fun t212 => (if (strOfNums t212).size + (strOfNums m).size ≤ 9223372036854775807 then (some ((strOfNums bt207.1).toList == ((strOfNums t212) ++ (strOfNums m)).toList)) else (none))) else (some false)) (fun k => ?_) ?_
    · rw [wainloadlaw07_MatchBehind.l0, if_neg (by omega), hal]
      rfl
    · refine Ev.bind hT ?_
      simp only [if_true]
      refine Ev.bind (r_tell l (by omega) R hR) ?_
      rw [if_pos (by omega), strOfNums_cat, beq_self_eq_true]
      exact Ev.now _
  | succ d ih =>
    intro i hd hi
    have hlt : i < m.length := by omega
    have IH := ih (i + 1) (by omega) (by omega)
    have htk : l ++ (m.take (i + 1)).map byTok = (l ++ (m.take i).map byTok) ++ [(⟨rd m (i : Int), 0, 0⟩ : S32)] := by
      rw [List.take_succ_eq_append_getElem hlt, List.map_append, List.append_assoc]
      have : rd m (i : Int) = m[i] := by unfold rd; rw [Int.toNat_natCast, List.getD_eq_getElem?_getD, List.getElem?_eq_getElem hlt]; rfl
      rw [this]
      rfl
    have hlen : (l ++ (m.take i).map byTok).length < 5864062014805 := by simp; omega
    have hw : wrap64 ((i : Int) + 1) = ((i + 1 : Nat) : Int) := wrap64_in _ (by omega) (by omega)
    refine Ev.step (fun k => ?_) IH
    rw [wainloadlaw07_MatchBehind.l0, if_pos (by omega), if_pos (by omega), if_pos (by omega), if_pos hlen, hw, ← htk]

theorem MatchBehind (l : List S32) (m : List Int) (hw : l.length ≤ maxLen ∧ l.length * 24 ≤ 140737488351232 ∧ ∀ x ∈ l, wfTok x) (hw2 : m.length ≤ maxLen ∧ m.length * 1 ≤ 140737488351232 ∧ ∀ x ∈ m, (Lit.int .u8 x).wf = true) : ∃ k, wainloadlaw07_MatchBehind.f k l m = some true := by
  clear hw hw2
  apply Ev.rounds
  unfold wainloadlaw07_MatchBehind.f
  have hal : wainloadlaw07_alive.f = some true := rfl
  have hskip : Ev (fun k => wainloadlaw07_MatchBehind.j0 k l m true) true := by
    refine Ev.step (f := fun _ => some true) (fun k => ?_) (Ev.now _)
    rw [wainloadlaw07_MatchBehind.j0, if_pos rfl, hal, Option.bind_some]
  by_cases hl : (l.length : Int) > 400
  · simp only [if_pos hl]; exact hskip
  simp only [if_neg hl]
  by_cases hm : (m.length : Int) > 2000
  · simp only [if_pos hm]; exact hskip
  simp only [if_neg hm]
  refine Ev.bind (r_right l (by omega)) ?_
  cases hr : right (some 0) l with
  | none => exact hskip
  | some R =>
    have := behind_end l m (by omega) (by omega) R hr m.length 0 (by omega) (by omega)
    rw [List.take_zero, List.map_nil, List.append_nil] at this
    refine Ev.step (fun k => ?_) this
    show wainloadlaw07_MatchBehind.j0 (k + 1) l m false = _
    have hlen : ([] : List S32).length + l.length < 5864062014805 := by simp; omega
    rw [wainloadlaw07_MatchBehind.j0, if_neg (by decide), Option.bind_some, if_pos hlen, List.nil_append]
    rfl

end Go.Proofs.Ytohkjiellcikhaa.Pure
