/- What the bound of an Upto statement gives: the lengths of what came in. -/
import Derived.Test.YtohkjiellcikhaaRows
import Derived.ProofKit
import Derived.OpenShut
namespace Go.Proofs.Ytohkjiellcikhaa.bulks
set_option linter.unusedVariables false
set_option linter.unusedSimpArgs false

theorem one_le {H : Type} (d : DataW H) : 1 ≤ Rows.uptoBulk d := by
  cases d with
  | lit l => cases l <;> simp [Rows.uptoBulk]
  | nil => simp [Rows.uptoBulk]
  | ptr d => simp [Rows.uptoBulk]
  | slice elems spare => simp [Rows.uptoBulk]
  | agg parts => simp [Rows.uptoBulk]
  | iface t d => simp [Rows.uptoBulk]
  | map entries => simp [Rows.uptoBulk]
  | held h => simp [Rows.uptoBulk]
theorem part_le {H : Type} {d : DataW H} {l : List (DataW H)} (h : d ∈ l) : Rows.uptoBulk d ≤ Rows.uptoBulkAll l := by
  induction l with
  | nil => cases h
  | cons x r ih =>
    simp only [Rows.uptoBulkAll]
    cases List.mem_cons.1 h with
    | inl e => subst e; omega
    | inr e => have := ih e; omega
theorem length_le {H : Type} (l : List (DataW H)) : l.length ≤ Rows.uptoBulkAll l := by
  induction l with
  | nil => simp [Rows.uptoBulkAll]
  | cons x r ih => have := one_le x; simp only [Rows.uptoBulkAll, List.length_cons]; omega
theorem part_bound {H : Type} {d : DataW H} {l : List (DataW H)} (hk : Rows.uptoSmall H l = true) (h : d ∈ l) : Rows.uptoBulk d ≤ 1048576 := by
  have h1 : Rows.uptoBulkAll l ≤ 1048576 := of_decide_eq_true hk
  have := part_le h
  omega
theorem slice_len {H : Type} {d : DataW H} {l e s : List (DataW H)} (hk : Rows.uptoSmall H l = true) (h : d ∈ l) (hd : d = .slice e s) : e.length ≤ 1048575 := by
  have := part_bound hk h
  subst hd
  have h1 := length_le e
  simp only [Rows.uptoBulk] at this
  omega
theorem str_len {H : Type} {b : List UInt8} {l : List (DataW H)} (hk : Rows.uptoSmall H l = true) (h : DataW.lit (.string b) ∈ l) : b.length ≤ 1048575 := by
  have := part_bound hk h
  simp only [Rows.uptoBulk] at this
  omega

end Go.Proofs.Ytohkjiellcikhaa.bulks
