/- Layer 07's kinds of parameters, opened. -/
import Derived.Test.YtohkjiellcikhaaOpens
import Derived.Test.YtohkjiellcikhaaP07x0
namespace Go.Proofs.Ytohkjiellcikhaa.P07
open Go.RowKit Go.Proofs.YtohkjiellcikhaaW.PrintWords Go.Proofs.Ytohkjiellcikhaa
set_option linter.unusedVariables false

theorem opens_u8 : Opens 5 (Kd.int .u8) (fun n => (Lit.int .u8 n).wf = true) := Opens.int Try.underlying5 (by kernel_rfl)
theorem opens_int : Opens 3 (Kd.int .i64) (fun n => (Lit.int .i64 n).wf = true) := Opens.int Try.underlying3 (by kernel_rfl)
theorem opens_bytes : Opens 24 (Kd.slice 5 (Kd.int .u8)) (fun xs => xs.length ≤ maxLen ∧ xs.length * 1 ≤ 140737488351232 ∧ ∀ x ∈ xs, (Lit.int .u8 x).wf = true) := Opens.slice Try.underlying24 (by kernel_rfl) (by kernel_rfl) opens_u8
/-- A token's fields are in their kinds' ranges. -/
def wfTok (x : S32) : Prop := (Lit.int .u8 x.f0).wf = true ∧ (Lit.int .i64 x.f1).wf = true ∧ (Lit.int .i64 x.f2).wf = true
theorem opens_token : Opens 32 k32 wfTok := by
  have H := Opens.struct (g := fun x : S32 => (x.f0, x.f1, x.f2)) Try.underlying32 (by kernel_rfl) rfl
    (OpensFs.cons opens_u8 rfl (OpensFs.cons opens_int rfl (OpensFs.last opens_int rfl))) (fun a => ⟨a.1, a.2.1, a.2.2⟩) (fun a => rfl)
  exact H
theorem opens_tokens : Opens 22 (Kd.slice 32 k32) (fun xs => xs.length ≤ maxLen ∧ xs.length * 24 ≤ 140737488351232 ∧ ∀ x ∈ xs, wfTok x) := Opens.slice Try.underlying22 (by kernel_rfl) (by kernel_rfl) opens_token

end Go.Proofs.Ytohkjiellcikhaa.P07
