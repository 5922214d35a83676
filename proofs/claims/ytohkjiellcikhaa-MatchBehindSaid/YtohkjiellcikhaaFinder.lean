/- The finder of match in memory: note, common, best. -/
import Derived.Test.YtohkjiellcikhaaMatchM
import Derived.Test.YtohkjiellcikhaaOnly
import Derived.Test.YtohkjiellcikhaaP07x4
import Derived.StillTailTactics
namespace Go.Proofs.Ytohkjiellcikhaa.P07
open Go.RowKit Go.Proofs.YtohkjiellcikhaaW.PrintWords Go.Proofs.YtohkjiellcikhaaW.PrintLast Go.Proofs.YtohkjiellcikhaaW.PrintMore Go.Proofs.Ytohkjiellcikhaa MF
set_option linter.unusedVariables false
set_option linter.unusedSimpArgs false

/-- int's row of a function's first n values. -/
def rowI (n : Nat) (f : Nat → Nat) : List Int := (List.range n).map fun i => (f i : Int)
theorem rowI_length (n : Nat) (f : Nat → Nat) : (rowI n f).length = n := by simp [rowI]
theorem rowI_set (n : Nat) (f : Nat → Nat) (k v : Nat) : (rowI n f).set k (v : Int) = rowI n (fun i => if i = k then v else f i) := by
  apply List.ext_getElem
  · simp [rowI]
  · intro i h1 h2
    simp only [rowI, List.getElem_set, List.getElem_map, List.getElem_range]
    by_cases h : k = i
    · subst h; simp
    · rw [if_neg h, if_neg (Ne.symm h)]
theorem rowI_at (n : Nat) (f : Nat → Nat) (i : Nat) (h : i < n) : rd (rowI n f) (i : Int) = (f i : Int) := by
  simp [rd, rowI, List.getD_eq_getElem?_getD, h]

/-- The finder's block g, its row of places ahead (block ga). -/
def IsFinder (w0 w : World) (g ga : Nat) (A : Option Addr) (c cap : Nat) (l : List Int) (T : Nat) (s : St) : Prop :=
  (∃ cs, w.heap[g]? = some (.cells cs 46 (0, 0)) ∧ cs.size = 8195 ∧ cs[0]? = some (.slice A l.length c) ∧ (∀ i, i < 8192 → cs[1 + i]? = some (.int .i64 (s.last i : Int))) ∧
    cs[8193]? = some (.slice (some ⟨ga, 0, none⟩) l.length cap) ∧ cs[8194]? = some (.int .i64 (T : Int))) ∧
  (Kd.int .i64).R 3 w w0.heap.size (fun _ => True) (.slice (some ⟨ga, 0, none⟩) l.length cap) (rowI l.length s.ahead) ∧ w0.heap.size ≤ g
section
variable {w0 w w1 : World} {g ga : Nat} {A : Option Addr} {c cap : Nat} {l : List Int} {T : Nat} {s : St}
theorem IsFinder.ne (h : IsFinder w0 w g ga A c cap l T s) : g ≠ ga := by
  obtain ⟨⟨cs, hg, _⟩, hr, _⟩ := h
  rintro rfl
  obtain ⟨cells, hc⟩ := Kd.R_typed hr g rfl
  rw [hg] at hc
  injection hc with hc
  injection hc with _ hc
  exact absurd hc (by decide)
theorem IsFinder.kept (h : IsFinder w0 w g ga A c cap l T s) (hg : w1.heap[g]? = w.heap[g]?) (ha : w1.heap[ga]? = w.heap[ga]?) : IsFinder w0 w1 g ga A c cap l T s := by
  obtain ⟨⟨cs, h1, h2⟩, hr, h3⟩ := h
  refine ⟨⟨cs, hg.trans h1, h2⟩, ?_, h3⟩
  have hr2 : (Kd.int .i64).R 3 w w0.heap.size (fun k => k = ga) (.slice (some ⟨ga, 0, none⟩) l.length cap) (rowI l.length s.ahead) := by
    obtain ⟨k1, k2⟩ := hr
    refine ⟨fun k hk => by simp [Value.ownBlock] at hk; exact hk.symm, ?_⟩
    exact k2.imp_ (fun _ _ hp => hp)
  exact Kd.R_mono (Kd.R_move hr2 (fun k hk => by subst hk; exact ha)) (fun _ _ => trivial)
theorem IsFinder.drewN (h : IsFinder w0 w g ga A c cap l T s) (n : Nat) : IsFinder w0 (w.drewN n) g ga A c cap l T s := h.kept rfl rfl
theorem IsFinder.lt (h : IsFinder w0 w g ga A c cap l T s) : g < w.heap.size ∧ ga < w.heap.size ∧ w0.heap.size ≤ g ∧ w0.heap.size ≤ ga := by
  obtain ⟨⟨cs, h1, h2⟩, hr, h3⟩ := h
  exact ⟨(Array.getElem?_eq_some_iff.1 h1).1, Kd.R_lt hr ga rfl, h3, Kd.R_base hr ga rfl⟩
theorem IsFinder.below (h : IsFinder w0 w g ga A c cap l T s) (hb : Below w.heap.size w w1) : IsFinder w0 w1 g ga A c cap l T s := h.kept (hb.block g h.lt.1) (hb.block ga h.lt.2.1)
theorem IsFinder.only (h : IsFinder w0 w g ga A c cap l T s) {S : Nat → Prop} (hb : Only w w1 S) (h1 : ¬ S g) (h2 : ¬ S ga) : IsFinder w0 w1 g ga A c cap l T s := h.kept (hb.block g h.lt.1 h1) (hb.block ga h.lt.2.1 h2)
theorem IsFinder.cells (h : IsFinder w0 w g ga A c cap l T s) : w.cell? ⟨g, 0, none⟩ = some (.slice A l.length c) ∧ w.cell? ⟨g, 8193, none⟩ = some (.slice (some ⟨ga, 0, none⟩) l.length cap) ∧ w.cell? ⟨g, 8194, none⟩ = some (.int .i64 (T : Int)) := by
  obtain ⟨⟨cs, h1, h2, h3, h4, h5, h6⟩, hr, _⟩ := h
  exact ⟨cell_row h1 h3, cell_row h1 h5, cell_row h1 h6⟩
theorem IsFinder.last (h : IsFinder w0 w g ga A c cap l T s) (k : Nat) (hk : k < 8192) : w.cell? ⟨g, 1 + k, none⟩ = some (.int .i64 (s.last k : Int)) ∧ w.frozen? ⟨g, 1 + k, none⟩ = false := by
  obtain ⟨⟨cs, h1, h2, h3, h4, h5, h6⟩, hr, _⟩ := h
  exact ⟨cell_row h1 (h4 k hk), frozen_of_row _ _ _ _ _ h1⟩
theorem IsFinder.ahead (h : IsFinder w0 w g ga A c cap l T s) (i : Nat) (hi : i < l.length) : w.cell? ⟨ga, i, none⟩ = some (.int .i64 (s.ahead i : Int)) ∧ w.frozen? ⟨ga, i, none⟩ = false := by
  obtain ⟨_, hr, _⟩ := h
  have := Kd.R_celln (0 : Int) hr (i : Int) (by omega) (by omega)
  rw [Int.toNat_natCast] at this
  have e : rdOf (0 : Int) (rowI l.length s.ahead) (i : Int) = (s.ahead i : Int) := by
    have := rowI_at l.length s.ahead i hi
    exact this
  rw [e] at this
  exact this
theorem IsFinder.setAhead (h : IsFinder w0 w g ga A c cap l T s) (i v : Nat) (hi : i < l.length) : IsFinder w0 (w.setCell ⟨ga, i, none⟩ (.int .i64 (v : Int))) g ga A c cap l T ⟨s.last, fun j => if j = i then v else s.ahead j⟩ := by
  have hne := h.ne
  obtain ⟨⟨cs, h1, h2⟩, hr, h3⟩ := h
  refine ⟨⟨cs, ?_, h2⟩, ?_, h3⟩
  · rw [heap_setCell_other _ _ _ _ (by exact hne)]; exact h1
  · have := Kd.R_putn hr (i : Int) (v : Int)
    rw [Int.toNat_natCast, rowI_set] at this
    exact this
theorem IsFinder.setLast (h : IsFinder w0 w g ga A c cap l T s) (k v : Nat) (hk : k < 8192) : IsFinder w0 (w.setCell ⟨g, 1 + k, none⟩ (.int .i64 (v : Int))) g ga A c cap l T ⟨fun j => if j = k then v else s.last j, s.ahead⟩ := by
  have hne := h.ne
  obtain ⟨⟨cs, h1, h2, h3, h4, h5, h6⟩, hr, h7⟩ := h
  refine ⟨⟨cs.setIfInBounds (1 + k) (.int .i64 (v : Int)), heap_setCell_same _ _ _ _ _ _ h1, by simpa using h2, ?_, ?_, ?_, ?_⟩, ?_, h7⟩
  · rw [Array.getElem?_setIfInBounds_ne (by omega)]; exact h3
  · intro i hi
    by_cases e : i = k
    · subst e
      rw [Array.getElem?_setIfInBounds_self_of_lt (by omega)]
      simp
    · rw [Array.getElem?_setIfInBounds_ne (by omega), h4 i hi]
      simp [e]
  · rw [Array.getElem?_setIfInBounds_ne (by omega)]; exact h5
  · rw [Array.getElem?_setIfInBounds_ne (by omega)]; exact h6
  · exact Kd.R_mono (Kd.R_far (Kd.R_types hr h1 (by intro q hq; simp [Kd.int, Kd.scalar] at hq; subst hq; decide)) (fun k hk => hk.2) _) (fun _ _ => trivial)
end

end Go.Proofs.Ytohkjiellcikhaa.P07
