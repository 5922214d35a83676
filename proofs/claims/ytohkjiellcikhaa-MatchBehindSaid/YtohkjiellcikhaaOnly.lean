/- The frame of a call: which of the elder blocks it may have turned. -/
import Derived.Test.YtohkjiellcikhaaOwn
namespace Go.Proofs.Ytohkjiellcikhaa
open Go.RowKit Go.Proofs.YtohkjiellcikhaaW.PrintWords Go.Proofs.YtohkjiellcikhaaW.PrintLast Go.Proofs.YtohkjiellcikhaaW.PrintMore
set_option linter.unusedVariables false
set_option linter.unusedSimpArgs false

/-- Of the blocks that were there, those of S alone may have turned. -/
structure Only (w w' : World) (S : Nat → Prop) : Prop where
  os : w'.os = w.os
  tape : w'.tape = w.tape
  output : w'.output = w.output
  size : w.heap.size ≤ w'.heap.size
  block : ∀ k, k < w.heap.size → ¬ S k → w'.heap[k]? = w.heap[k]?
theorem Only.refl (w : World) (S : Nat → Prop) : Only w w S := ⟨rfl, rfl, rfl, Nat.le_refl _, fun _ _ _ => rfl⟩
theorem Only.trans {a b c : World} {S T : Nat → Prop} (h : Only a b S) (k : Only b c T) (hT : ∀ i, i < a.heap.size → T i → S i) : Only a c S :=
  ⟨k.os.trans h.os, k.tape.trans h.tape, k.output.trans h.output, Nat.le_trans h.size k.size, fun i hi hn => (k.block i (Nat.lt_of_lt_of_le hi h.size) (fun ht => hn (hT i hi ht))).trans (h.block i hi hn)⟩
theorem Only.mono {a b : World} {S T : Nat → Prop} (h : Only a b S) (hT : ∀ i, i < a.heap.size → S i → T i) : Only a b T :=
  ⟨h.os, h.tape, h.output, h.size, fun i hi hn => h.block i hi (fun hs => hn (hT i hi hs))⟩
theorem Only.drewN {a b : World} {S : Nat → Prop} (h : Only a b S) (n : Nat) : Only a (b.drewN n) S := ⟨h.os, h.tape, h.output, h.size, h.block⟩
theorem Only.drew {a b : World} {S : Nat → Prop} (h : Only a b S) : Only a b.drew S := ⟨h.os, h.tape, h.output, h.size, h.block⟩
theorem Only.setCell {a b : World} {S : Nat → Prop} (h : Only a b S) {p : Addr} (hp : S p.block ∨ a.heap.size ≤ p.block) (u : Value) : Only a (b.setCell p u) S :=
  ⟨h.os, h.tape, h.output, by simpa [World.setCell] using h.size, fun i hi hn => (Below.heap_setCell b p u i (by
    rcases hp with hp | hp
    · intro e; subst e; exact hn hp
    · omega)).trans (h.block i hi hn)⟩
theorem Only.alloc {a b : World} {S : Nat → Prop} (h : Only a b S) (o : Obj) : Only a (b.alloc o) S :=
  ⟨h.os, h.tape, h.output, by have := h.size; simp; omega, fun i hi hn => (Below.heap_alloc b o i (Nat.lt_of_lt_of_le hi h.size)).trans (h.block i hi hn)⟩
theorem Only.of_below {a b : World} (h : Below a.heap.size a b) (S : Nat → Prop) : Only a b S := ⟨h.os, h.tape, h.output, h.size, fun i hi _ => h.block i hi⟩
theorem Only.below {a b : World} {S : Nat → Prop} (h : Only a b S) (B : Nat) (hB : B ≤ a.heap.size) (hS : ∀ i, S i → B ≤ i) : Below B a b :=
  ⟨h.os, h.tape, h.output, h.size, fun i hi => h.block i (by omega) (fun hs => by have := hS i hs; omega)⟩
theorem Only.of_grown {a b : World} {row : Option Nat} (h : a.grownBy b row) : Only a b (fun k => some k = row) := ⟨h.os, h.tape, h.output, h.size, fun i hi hn => h.block i hi hn⟩
theorem Only.bytes {a b : World} {S : Nat → Prop} (h : Only a b S) {A : Option Addr} {l : List UInt8} (hb : Bytes a A l) (hS : ∀ ad, A = some ad → ¬ S ad.block) : Bytes b A l := by
  cases A with
  | none => have := hb.none_nil; subst this; exact Bytes.nil _ _
  | some ad =>
    refine Bytes.mk hb.len (fun k hk => ?_)
    obtain ⟨ad', e, hc⟩ := hb.at k hk
    cases e
    have hlt := World.block_lt_of_cell? a _ hc
    have he : (ad.add k).block = ad.block := by unfold Addr.add; split <;> rfl
    rw [World.cell?_of_block (w := a) (h.block _ hlt (by rw [he]; exact hS ad rfl))]
    exact hc

end Go.Proofs.Ytohkjiellcikhaa
