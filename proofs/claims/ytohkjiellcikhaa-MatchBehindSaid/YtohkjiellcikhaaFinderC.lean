/- How a finder is made. -/
import Derived.Test.YtohkjiellcikhaaFinderB
import Derived.Laws.Tables
namespace Go.Proofs.Ytohkjiellcikhaa.P07
open Go.RowKit Go.Proofs.YtohkjiellcikhaaW.PrintWords Go.Proofs.YtohkjiellcikhaaW.PrintLast Go.Proofs.YtohkjiellcikhaaW.PrintMore Go.Proofs.Ytohkjiellcikhaa MF
set_option linter.unusedVariables false
set_option linter.unusedSimpArgs false

def isZ : Value → Bool
  | .int .i64 0 => true
  | _ => false
theorem isZ_eq {v : Value} (h : isZ v = true) : v = .int .i64 0 := by
  unfold isZ at h
  split at h
  · rfl
  · exact absurd h (by simp)
def chkZ (n : Nat) (cs : Array Value) : Bool := cs.size == 8195 && ((cs.toList.drop 1).take 8192).all isZ
set_option maxRecDepth 100000 in
theorem zero_finder : ((Try.prog.info? 46).bind (·.zero)).map (fun z => chkZ 0 z.cells) = some true := by kernel_rfl
theorem places_finder : ((match Try.prog.underlying 46 with | some (.struct fields) => fields.toList.mapM (fun f => (Try.prog.info? f.type).map fun i => (f.offset, i.size)) | _ => none) : Option (List (Nat × Nat))) = some [(0, 1), (1, 8192), (8193, 1), (8194, 1)] := by kernel_rfl
set_option maxRecDepth 100000 in
theorem cells_are (z : Array Value) (h : chkZ 0 z = true) (v0 v2 v3 : Value) (cs : Array Value) (hcs : ((z.setIfInBounds 0 v0).setIfInBounds 8193 v2).setIfInBounds 8194 v3 = cs) :
    cs.size = 8195 ∧ cs[0]? = some v0 ∧ (∀ i, i < 8192 → cs[1 + i]? = some (.int .i64 0)) ∧ cs[8193]? = some v2 ∧ cs[8194]? = some v3 := by
  unfold chkZ at h
  rw [Bool.and_eq_true, beq_iff_eq] at h
  obtain ⟨hsz, hall⟩ := h
  subst hcs
  refine ⟨by simpa using hsz, ?_, ?_, ?_, ?_⟩
  · rw [Array.getElem?_setIfInBounds_ne (by omega), Array.getElem?_setIfInBounds_ne (by omega), Array.getElem?_setIfInBounds_self_of_lt (by omega)]
  · intro i hi
    rw [Array.getElem?_setIfInBounds_ne (by omega), Array.getElem?_setIfInBounds_ne (by omega), Array.getElem?_setIfInBounds_ne (by omega)]
    have hlt : 1 + i < z.size := by omega
    rw [Array.getElem?_eq_getElem hlt]
    congr 1
    apply isZ_eq
    rw [List.all_eq_true] at hall
    refine hall _ ?_
    rw [List.mem_iff_getElem?]
    refine ⟨i, ?_⟩
    rw [List.getElem?_take, if_pos hi, List.getElem?_drop, Array.getElem?_toList, Array.getElem?_eq_getElem hlt]
  · rw [Array.getElem?_setIfInBounds_ne (by omega), Array.getElem?_setIfInBounds_self_of_lt (by simp; omega)]
  · rw [Array.getElem?_setIfInBounds_self_of_lt (by simp; omega)]
theorem zero_run : ∃ Z : Array Value, chkZ 0 Z = true ∧ ∀ W : World, (zeroValue 46).run Try.prog W = .ok (.agg Z) W := by
  have hz := zero_finder
  cases hi : Try.prog.info? 46 with
  | none => rw [hi] at hz; simp at hz
  | some it =>
    cases hzz : it.zero with
    | none => rw [hi] at hz; simp [hzz] at hz
    | some z =>
      rw [hi] at hz
      simp only [Option.bind_some, hzz, Option.map_some, Option.some.injEq] at hz
      have hag : z = .agg z.cells := by
        have hsz : z.cells.size = 8195 := by
          have := hz
          unfold chkZ at this
          rw [Bool.and_eq_true, beq_iff_eq] at this
          exact this.1
        cases z <;> first | rfl | (exact absurd hsz (by simp [Value.cells]))
      refine ⟨z.cells, hz, fun W => ?_⟩
      have : ∀ W : World, (zeroValue 46).run Try.prog W = .ok z W := fun W => by
        simp only [zeroValue, typeInfo, Sem.run_bind, Go.run_program, Result.andThen_ok, hi, hzz, Sem.run_pure]
      rw [← hag]
      exact this W
theorem chkZ_size {Z : Array Value} (h : chkZ 0 Z = true) : Z.size = 8195 := by
  unfold chkZ at h
  rw [Bool.and_eq_true, beq_iff_eq] at h
  exact h.1

end Go.Proofs.Ytohkjiellcikhaa.P07
