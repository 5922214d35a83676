/- Small words that all walks of this seat use: facts put aside, bytes read out of memory, rows of an array. -/
import Derived.Test.YtohkjiellcikhaaProg
import Derived.WalkKit
import Derived.KernelRfl
import Derived.Deep.WholeRow
import Derived.Deep.LoopGhost
import Derived.Deep.QuietTactic
import Derived.BigQuiet
import Derived.Laws.CopyOwn
import Derived.Lib.SmallJoins
import Derived.Lib.SlBytesConst
import Derived.Test.YtohkjiellcikhaaWWords
import Derived.Test.YtohkjiellcikhaaWMore
import Derived.OpenShut
namespace Go.Proofs.Ytohkjiellcikhaa
open Go.RowKit Go.Proofs.YtohkjiellcikhaaW.PrintWords Go.Proofs.YtohkjiellcikhaaW.PrintLast Go.Proofs.YtohkjiellcikhaaW.PrintMore
set_option linter.unusedVariables false
set_option linter.unusedSimpArgs false

/-- A fact that the walk's simp doesn't look into. -/
structure Aside (p : Prop) : Prop where mk :: (out : p)

/-- Bytes as the whole numbers that a row of cells holds. -/
def ints (l : List UInt8) : List Int := l.map fun b => (b.toNat : Int)
theorem ints_length (l : List UInt8) : (ints l).length = l.length := by simp [ints]
theorem rd_ints (l : List UInt8) (k : Nat) (h : k < l.length) : rd (ints l) k = (l[k].toNat : Int) := by
  unfold rd ints
  rw [List.getD_eq_getElem?_getD]
  simp [h]

/-- A slice that reads as these bytes (nil, empty and others alike). -/
def Bytes (w : World) (A : Option Addr) (l : List UInt8) : Prop := Kd.C (Kd.int .u8) w A l.length (ints l)
theorem Bytes.at {w : World} {A : Option Addr} {l : List UInt8} (h : Bytes w A l) (k : Nat) (hk : k < l.length) :
    ∃ ad, A = some ad ∧ w.cell? (ad.add k) = some (.int .u8 (l[k].toNat : Int)) := by
  obtain ⟨ad, e, hc⟩ := Kd.at_int h k (by omega) (by omega)
  refine ⟨ad, e, ?_⟩
  have := hc
  rw [rd_ints l k hk] at this
  simpa using this
theorem Bytes.mk {w : World} {ad : Addr} {l : List UInt8} (hl : l.length ≤ 9223372036854775807) (h : ∀ k, (hk : k < l.length) → w.cell? (ad.add k) = some (.int .u8 (l[k].toNat : Int))) : Bytes w (some ad) l := by
  refine ⟨by simp [ints], hl, fun _ => ⟨ad, rfl, fun j p hj => ?_⟩⟩
  have hj' : j < l.length := by
    have := (List.getElem?_eq_some_iff.1 hj).1
    simpa [ints] using this
  refine ⟨[.int .u8 (l[j].toNat : Int)], rfl, ?_, fun i u hu => ?_⟩
  · have : p = (l[j].toNat : Int) := by
      simp [ints, hj'] at hj
      exact hj.symm
    subst this
    rfl
  · have hi : i = 0 := by
      have := (List.getElem?_eq_some_iff.1 hu).1
      simp at this
      exact this
    subst hi
    have hu' : Value.int .u8 (l[j].toNat : Int) = u := by simpa using hu
    subst hu'
    have := h j hj'
    simpa [Kd.int, Kd.scalar] using this
theorem Bytes.row {w : World} {g : Nat} {cs : Array Value} {t : TypeId} {fr : Nat × Nat} {l : List UInt8} (hl : l.length ≤ 9223372036854775807) (hg : w.heap[g]? = some (.cells cs t fr)) (h : ∀ k, (hk : k < l.length) → cs[k]? = some (.int .u8 (l[k].toNat : Int))) : Bytes w (some ⟨g, 0, none⟩) l :=
  Bytes.mk hl (fun k hk => by rw [add_plain, cell_of_row w g k cs t fr hg]; exact h k hk)
theorem Bytes.lit {w : World} {g : Nat} {t : TypeId} {fr : Nat × Nat} (l : List UInt8) (hl : l.length ≤ 9223372036854775807) (hg : w.heap[g]? = some (.cells (l.map fun b => Value.int .u8 (b.toNat : Int)).toArray t fr)) : Bytes w (some ⟨g, 0, none⟩) l :=
  Bytes.row hl hg (fun k hk => by simp [hk])
theorem Bytes.nil (w : World) (A : Option Addr) : Bytes w A [] := ⟨rfl, by simp, fun h => absurd h (by simp)⟩
theorem Bytes.len {w : World} {A : Option Addr} {l : List UInt8} (h : Bytes w A l) : l.length ≤ 9223372036854775807 := h.2.1
theorem Bytes.below {w w1 : World} {A : Option Addr} {l : List UInt8} (h : Bytes w A l) (hb : Below w.heap.size w w1) : Bytes w1 A l := Kd.C_below h hb
theorem heap_alloc_last' (w : World) (o : Obj) (g : Nat) (h : g = w.heap.size) : (w.alloc o).heap[g]? = some o := by subst h; exact heap_alloc_new _ _
theorem cell_row {w : World} {g j : Nat} {cs : Array Value} {t : TypeId} {fr : Nat × Nat} (hg : w.heap[g]? = some (.cells cs t fr)) {v : Value} (hv : cs[j]? = some v) : w.cell? ⟨g, j, none⟩ = some v :=
  (cell_of_row w g j cs t fr hg).trans hv
/-- A whole array into the block that was made last. -/
theorem wpList_store_new {P : Program} {ops : Array Oper} {rest : List Oper} {o : Oper} {a : Act} {w : World} {Q : Exit → Act → World → Prop} (hgd : o.guard = none) (ty : TypeId) (x y : Operand) (ho : o.op = .store ty x y)
    (t : TypeId) (old cells : Array Value) (hx : a.eval x = .pointer (some ⟨w.heap.size, 0, none⟩)) (hy : a.eval y = .agg cells)
    (hi : (P.info? ty).map (·.size) = some cells.size) (hold : old.size = cells.size) (h1 : cells.all (·.oneCell') = true)
    (h : wpList P ops Q rest (a.put o.dst undef) (w.alloc (.cells cells t))) : wpList P ops Q (o :: rest) a (w.alloc (.cells old t)) :=
  wpList_store_row hgd ty x y ho w.heap.size cells hx hy t old (heap_alloc_new _ _) hi hold h1 (by rw [World.setRow_alloc_new]; exact h)
theorem nat_eq_beq {a b : Nat} : ((a : Int) == (b : Int)) = (a == b) := by
  rw [Bool.eq_iff_iff]; simp; omega

/-! ### A statement that draws its order and whose first operation is forced: that one is carried out, then one walk of the lexical order serves every order of the rest -/
section
variable {P : Program}

theorem wp_region_head {id : Nat} {o : Oper} {l : List Oper} {a : Act} {w : World} {Q : Exit → Act → World → Prop} (hm : P.follows .mixedOrders = true)
    (hB : (Region.noSelect (o :: l).toArray && (Region.ready .any (o :: l).toArray (Array.replicate (l.length + 1) false) == [0]) && Region.lexFrom .any (o :: l).toArray l.length 1 ((Array.replicate (l.length + 1) false).setIfInBounds 0 true)) = true)
    (hg : o.guard = none)
    (h : o.wp P a w.drew (fun a' w' => wpQuiet P (o :: l).toArray (fun w'' => ∃ n, w'' = w'.drewN n) (fun a'' => ∀ w'', (∃ n, w'' = w'.drewN n) → Q .normal a'' w'') l a') Q) :
    (Code.region id (o :: l).toArray true).wp P Q a w := by
  simp only [Bool.and_eq_true, beq_iff_eq] at hB
  obtain ⟨⟨hs, hr⟩, hl⟩ := hB
  refine wp_region_any hm ?_
  have hsz : (o :: l).toArray.size = l.length + 1 := by simp
  rw [hsz]
  refine ⟨fun h0 => by rw [hr] at h0; simp at h0, fun i hi => ?_⟩
  rw [hr] at hi
  have hi' : i = 0 := by simpa using hi
  subst hi'
  unfold wpOp
  have h0 : (o :: l).toArray[0]? = some o := by simp
  simp only [h0, Region.wanted, hg, if_true]
  refine .inl ?_
  refine Oper.wp_mono (fun a' w' hq => ?_) h
  refine wpAny_of_quiet (C := fun w'' => ∃ n, w'' = w'.drewN n) (Q := fun a'' => ∀ w'', (∃ n, w'' = w'.drewN n) → Q .normal a'' w'') (fun _ w'' hw'' hh => hh w'' hw'') _ _ _ _ ⟨0, rfl⟩ ?_
  exact wpAnyQ_lex hs l 1 _ a' (fun j => by simp [Nat.add_comm 1 j]) hl hq

end

/-! ### A row of which the first k places are done -/
def mixRow (n : Nat) (F G : Nat → Value) (k : Nat) : Array Value := ((List.range n).map fun i => if i < k then F i else G i).toArray
theorem mixRow_size (n : Nat) (F G : Nat → Value) (k : Nat) : (mixRow n F G k).size = n := by simp [mixRow]
theorem mixRow_at (n : Nat) (F G : Nat → Value) (k i : Nat) (h : i < n) : (mixRow n F G k)[i]? = some (if i < k then F i else G i) := by simp [mixRow, h]
theorem mixRow_set (n : Nat) (F G : Nat → Value) (k : Nat) : (mixRow n F G k).setIfInBounds k (F k) = mixRow n F G (k + 1) := by
  apply Array.ext
  · simp [mixRow]
  · intro i h1 h2
    simp only [mixRow, List.setIfInBounds_toArray, List.getElem_toArray]
    rw [List.getElem_set]
    simp only [List.getElem_map, List.getElem_range]
    split
    · rename_i h; subst h; simp
    · by_cases h3 : i < k
      · rw [if_pos h3, if_pos (by omega)]
      · rw [if_neg h3, if_neg (by omega)]
theorem mixRow_zero (n : Nat) (F : Nat → Value) (z : Value) : (List.replicate n z).toArray = mixRow n F (fun _ => z) 0 := by
  apply Array.ext <;> simp [mixRow]
theorem mixRow_all (n : Nat) (F G : Nat → Value) (k : Nat) (hF : ∀ i, (F i).oneCell' = true) (hG : ∀ i, (G i).oneCell' = true) : (mixRow n F G k).all (·.oneCell') = true := by
  simp only [mixRow, List.all_toArray, List.all_eq_true, List.mem_map]
  rintro v ⟨i, _, rfl⟩
  split
  · exact hF i
  · exact hG i

/-! ### What a row opens -/
def IsRow (k : IntKind) (w : World) (a : Option Addr) (len cap : Nat) (zs : List Int) : Prop :=
  (a = none ∧ len = 0 ∧ cap = 0 ∧ zs = []) ∨
  ∃ x, a = some x ∧ len ≤ cap ∧ cap ≤ maxLen ∧ zs.length = cap ∧ (∀ i, i < zs.length → w.cell? (x.add i) = some (.int k (zs.getD i 0))) ∧ ∀ n ∈ zs, (Lit.int k n).wf = true
theorem nat_of_wf_u8 {a : Int} (h : (Lit.int .u8 a).wf = true) : ∃ n : Nat, a = (n : Int) ∧ n < 256 := by
  have := bounds_u8 h
  exact ⟨a.toNat, by omega, by omega⟩
theorem nat_of_wf_u32 {a : Int} (h : (Lit.int .u32 a).wf = true) : ∃ n : Nat, a = (n : Int) ∧ n < 4294967296 := by
  have := bounds_u32 h
  exact ⟨a.toNat, by omega, by omega⟩
theorem range_of_wf {a : Int} (h : (Lit.int .i64 a).wf = true) : -9223372036854775808 ≤ a ∧ a ≤ 9223372036854775807 := by
  have := bounds_i64 h
  omega
theorem bytes_of_row {w : World} {a : Option Addr} {len cap : Nat} {zs : List Int} (h : IsRow .u8 w a len cap zs) :
    ∃ l : List UInt8, len = l.length ∧ Bytes w a l ∧ l.length ≤ cap := by
  rcases h with ⟨rfl, rfl, rfl, rfl⟩ | ⟨x, rfl, h1, h2, h3, h4, h5⟩
  · exact ⟨[], rfl, Bytes.nil _ _, by simp⟩
  · refine ⟨(zs.take len).map fun z => UInt8.ofNat z.toNat, by simp; omega, Bytes.mk (by unfold maxLen at h2; simp; omega) (fun k hk => ?_), by simp; omega⟩
    have hk' : k < len := by simp at hk; omega
    have hkz : k < zs.length := by omega
    rw [h4 k hkz]
    have hw := bounds_u8 (h5 _ (List.getElem_mem hkz))
    rw [List.getD_eq_getElem?_getD, List.getElem?_eq_getElem hkz]
    simp only [Option.getD_some, List.getElem_map, List.getElem_take]
    congr 2
    rw [UInt8.toNat_ofNat']
    omega

end Go.Proofs.Ytohkjiellcikhaa
