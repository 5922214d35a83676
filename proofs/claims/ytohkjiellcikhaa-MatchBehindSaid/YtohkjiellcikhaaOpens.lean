/- What came in, opened by its kind (Kd): whole numbers, bools, strings, structs, slices of all of these. -/
import Derived.Test.YtohkjiellcikhaaBase
import Derived.Deep.Slices
import Derived.ChangeArms
import Derived.SizedLaws
import Derived.DataReads
namespace Go.Proofs.Ytohkjiellcikhaa
open Go.ChangeShapes Go.WideShapes Go.Deep Go.RowKit Go.Proofs.YtohkjiellcikhaaW.PrintWords
set_option linter.unusedVariables false
set_option linter.unusedSimpArgs false

/-- A datum of type t is of the kind d, and in the form wf. -/
structure Opens (t : TypeId) {α : Type} (d : Kd α) (wf : α → Prop) : Prop where
  cells : Try.prog.cellsOf t = d.sz
  opens : ∀ {H : Type} {enc : TypeId × Value → H} {w : World} {base : Nat} {spare : Nat → Bool} {held : Bool} {fuel : Nat} {cs : List Value} {x : DataW H × List MemPlace},
    DataW.trod enc Try.prog w base spare held fuel t cs = some x → (∀ n ∈ x.1.weights Try.prog t, n ≤ reachBytes) → ∃ a : α, d.K w a cs ∧ wf a
theorem Opens.int {t : TypeId} {k : IntKind} (hu : Try.prog.underlying t = some (.int k)) (hc : Try.prog.cellsOf t = 1) : Opens t (Kd.int k) (fun n => (Lit.int k n).wf = true) := by
  refine ⟨hc, fun h _ => ?_⟩
  obtain ⟨n, rfl, _, hw⟩ := DataW.trod_int hu h
  exact ⟨n, rfl, hw⟩
theorem Opens.bool {t : TypeId} (hu : Try.prog.underlying t = some .bool) (hc : Try.prog.cellsOf t = 1) : Opens t Kd.bool (fun _ => True) := by
  refine ⟨hc, fun h _ => ?_⟩
  obtain ⟨n, rfl, _⟩ := DataW.trod_bool hu h
  exact ⟨n, rfl, trivial⟩
theorem Opens.string {t : TypeId} (hu : Try.prog.underlying t = some .string) (hc : Try.prog.cellsOf t = 1) : Opens t Kd.string (fun s => s.size ≤ 140737488351232) := by
  refine ⟨hc, fun h hw => ?_⟩
  obtain ⟨s, rfl, hx, _⟩ := DataW.trod_string hu h
  refine ⟨s, rfl, ?_⟩
  subst hx
  have := hw s.data.toList.length (by simp [DataW.weights])
  rw [Array.length_toList] at this
  exact this
theorem weightsAll_mem {H : Type} {P : Program} {e : TypeId} : ∀ {l : List (DataW H)} {d : DataW H}, d ∈ l → ∀ n ∈ d.weights P e, n ∈ DataW.weightsAll P e l
  | a :: l, d, hd, n, hn => by
    simp only [DataW.weightsAll, List.mem_append]
    rcases List.mem_cons.1 hd with rfl | h
    · exact .inl hn
    · exact .inr (weightsAll_mem h n hn)
theorem Opens.slice {t e : TypeId} {α : Type} {d : Kd α} {wf : α → Prop} (hu : Try.prog.underlying t = some (.slice e)) (hc : Try.prog.cellsOf t = 1) {B : Nat} (hB : Try.prog.bytesOf e = B) (h : Opens e d wf) :
    Opens t (Kd.slice e d) (fun xs => xs.length ≤ maxLen ∧ xs.length * B ≤ 140737488351232 ∧ ∀ x ∈ xs, wf x) := by
  refine ⟨hc, fun {H enc w base spare held fuel cs x} ht hw => ?_⟩
  rcases open_slice hu ht with ⟨rfl, _⟩ | ⟨a, len, cap, m, n, D, Pl, rfl, hb, hl, hm, hmm, hx, hi⟩
  · exact ⟨[], ⟨none, 0, rfl, Nat.le_refl _, rfl, by simp, fun h => absurd h (by simp)⟩, by simp, by simp, fun x hx => by simp at hx⟩
  · have hlm : len ≤ m := by rw [hmm]; split <;> omega
    subst hx
    simp only [DataW.weights, hu, List.mem_cons, List.mem_append] at hw
    have hbytes := hw _ (.inl rfl)
    have hk : ∀ i, i < len → ∃ a' : α, ∃ cs', d.K w a' cs' ∧ wf a' ∧ cs'.length = d.sz ∧ ∀ j u, cs'[j]? = some u → w.cell? (a.add (i * d.sz + j)) = some u := by
      intro i hil
      obtain ⟨cs', hc', ht'⟩ := hi i (by omega)
      obtain ⟨a', hK, hwf⟩ := h.opens ht' (fun q hq => hw q (.inr (.inl (weightsAll_mem (List.mem_map.2 ⟨i, List.mem_range.2 hil, rfl⟩) q hq))))
      rw [h.cells] at hc'
      obtain ⟨_, hcl, hat⟩ := World.cells?_some hc'
      refine ⟨a', cs', hK, hwf, hcl, fun j u hj => ?_⟩
      have hjl : j < d.sz := by rw [← hcl]; exact (List.getElem?_eq_some_iff.1 hj).1
      have := hat j hjl
      rw [Go.Deep.add_add] at this
      rw [this, hj]
    rcases Nat.eq_zero_or_pos len with h0 | h0
    · subst h0
      exact ⟨[], ⟨some a, cap, rfl, Nat.zero_le _, rfl, by simp, fun h => absurd h (by simp)⟩, by simp, by simp, fun x hx => by simp at hx⟩
    have hex : ∃ f : Nat → α, ∀ i, i < len → ∃ cs', d.K w (f i) cs' ∧ wf (f i) ∧ cs'.length = d.sz ∧ ∀ j u, cs'[j]? = some u → w.cell? (a.add (i * d.sz + j)) = some u := by
      obtain ⟨a0, _⟩ := hk 0 h0
      refine ⟨fun i => if hil : i < len then Classical.choose (hk i hil) else a0, fun i hil => ?_⟩
      simp only [dif_pos hil]
      exact Classical.choose_spec (hk i hil)
    obtain ⟨f, hf⟩ := hex
    have hlen : ((List.range len).map f).length = len := by simp
    have hmx : len ≤ 9223372036854775807 := Nat.le_trans (Nat.le_trans hl hm) (by decide)
    refine ⟨(List.range len).map f, ⟨some a, cap, by rw [hlen], by rw [hlen]; exact hl, by rw [hlen], by rw [hlen]; exact hmx, fun _ => ⟨a, rfl, fun j p hj => ?_⟩⟩, by rw [hlen]; omega, ?_, fun x hx => ?_⟩
    · rw [List.getElem?_map] at hj
      by_cases hjl : j < len
      · rw [List.getElem?_range hjl] at hj
        obtain rfl := Option.some.inj hj
        obtain ⟨cs', h1, _, h3, h4⟩ := hf j hjl
        exact ⟨cs', h3, h1, h4⟩
      · rw [List.getElem?_eq_none (by simp; omega)] at hj
        cases hj
    · rw [hlen, ← hB]
      have : ((List.range len).map D).length = len := by simp
      rw [this] at hbytes
      have h2 : len * Try.prog.bytesOf e ≤ (len + ((List.range (m - len)).map fun j => D (len + j)).length) * Try.prog.bytesOf e := Nat.mul_le_mul_right _ (by omega)
      exact Nat.le_trans h2 hbytes
    · obtain ⟨i, hi', rfl⟩ := List.mem_map.1 hx
      obtain ⟨_, _, h2, _⟩ := hf i (List.mem_range.1 hi')
      exact h2

/-- A parameter that is a slice. -/
theorem Opens.row {t e : TypeId} {α : Type} {d : Kd α} {wf : List α → Prop} (O : Opens t (Kd.slice e d) wf) {H : Type} {enc : TypeId × Value → H} {w : World} {base : Nat} {spare : Nat → Bool} {held : Bool} {A : Option Addr} {len cap : Nat} {D : DataW H} {ps : List MemPlace}
    (h : DataW.Trod enc Try.prog w base spare held t (.slice A len cap) D ps) {ts : List TypeId} {ds : List (DataW H)} (hsz : (DataW.weightsEach Try.prog ts ds).all (· ≤ reachBytes) = true) {j : Nat} (ht : ts[j]? = some t) (hd : ds[j]? = some D) :
    ∃ l : List α, len = l.length ∧ l.length ≤ cap ∧ Kd.C d w A l.length l ∧ wf l := by
  obtain ⟨fuel, hf⟩ := h
  obtain ⟨l, ⟨A', c, hcs, hl, hC⟩, hw⟩ := O.opens hf (fun q hq => by simpa using List.all_eq_true.1 hsz _ (DataW.weights_mem_each ht hd q hq))
  simp only [Value.cells, List.cons.injEq, and_true, Value.slice.injEq] at hcs
  obtain ⟨rfl, rfl, rfl⟩ := hcs
  exact ⟨l, rfl, hl, hC, hw⟩

/-- Fields one behind the other, from cell o on. -/
structure OpensFs (o : Nat) (fs : List Field) {α : Type} (d : Kd α) (wf : α → Prop) : Prop where
  opens : ∀ {H : Type} {enc : TypeId × Value → H} {w : World} {base : Nat} {spare : Nat → Bool} {held : Bool} {n : Nat} {all : List Value} {xs : List (DataW H × List MemPlace)},
    xs.length = fs.length → (∀ (i : Nat) (f : Field), fs[i]? = some f → DataW.trod enc Try.prog w base spare held n f.type ((all.drop f.offset).take (Try.prog.cellsOf f.type)) = xs[i]?) →
    (∀ q ∈ DataW.weightsEach Try.prog (fs.map (·.type)) (xs.map (·.1)), q ≤ reachBytes) → ∃ a : α, d.K w a ((all.drop o).take d.sz) ∧ wf a
theorem OpensFs.last {f : Field} {α : Type} {d : Kd α} {wf : α → Prop} (h : Opens f.type d wf) {o : Nat} (ho : f.offset = o) : OpensFs o [f] d wf := by
  refine ⟨fun {H enc w base spare held n all xs} hl hf hw => ?_⟩
  match xs, hl with
  | [y], _ =>
    have := hf 0 f rfl
    rw [ho, h.cells] at this
    exact h.opens this (fun q hq => hw q (by simp [DataW.weightsEach, hq]))
theorem OpensFs.cons {f : Field} {fs : List Field} {α β : Type} {d : Kd α} {d2 : Kd β} {wf : α → Prop} {wf2 : β → Prop} (h : Opens f.type d wf) {o : Nat} (ho : f.offset = o) (h2 : OpensFs (o + d.sz) fs d2 wf2) : OpensFs o (f :: fs) (Kd.pair d d2) (fun p => wf p.1 ∧ wf2 p.2) := by
  refine ⟨fun {H enc w base spare held n all xs} hl hf hw => ?_⟩
  match xs, hl with
  | y :: ys, hl =>
    have h0 := hf 0 f rfl
    rw [ho, h.cells] at h0
    obtain ⟨a, hK, hwf⟩ := h.opens h0 (fun q hq => hw q (by simp only [List.map_cons, DataW.weightsEach, List.mem_append]; exact .inl hq))
    obtain ⟨b, hK2, hwf2⟩ := h2.opens (by simpa using hl) (fun i g hg => hf (i + 1) g hg) (fun q hq => hw q (by simp only [List.map_cons, DataW.weightsEach, List.mem_append]; exact .inr hq))
    refine ⟨(a, b), ⟨_, _, ?_, hK, hK2⟩, hwf, hwf2⟩
    show (all.drop o).take (d.sz + d2.sz) = _
    rw [List.take_add, List.drop_drop]
theorem Opens.struct {t : TypeId} {fs : Array Field} {α β : Type} {d : Kd α} {wf : α → Prop} {g : β → α} (hu : Try.prog.underlying t = some (.struct fs)) (hc : Try.prog.cellsOf t = d.sz) {l : List Field} (hl : fs.toList = l) (h : OpensFs 0 l d wf) (mk : α → β) (hmk : ∀ a, g (mk a) = a) : Opens t (Kd.iso d g) (fun x => wf (g x)) := by
  refine ⟨hc, fun {H enc w base spare held fuel cs x} ht hw => ?_⟩
  obtain ⟨xs, n, _, hx, hcl, hxl, hf⟩ := DataW.trod_struct hu ht
  subst hl
  subst hx
  simp only [DataW.weights, hu] at hw
  obtain ⟨a, hK, hwf⟩ := h.opens (by simpa using hxl) (fun i f hi => hf i f (by simpa using hi)) hw
  rw [List.drop_zero, List.take_of_length_le (by rw [hcl, hc]; exact Nat.le_refl _)] at hK
  refine ⟨mk a, ?_, ?_⟩
  · show d.K w (g (mk a)) cs
    rw [hmk]; exact hK
  · show wf (g (mk a))
    rw [hmk]; exact hwf

end Go.Proofs.Ytohkjiellcikhaa
