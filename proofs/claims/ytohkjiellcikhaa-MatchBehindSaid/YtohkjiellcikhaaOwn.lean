/- Slices of the call's own: what append, make and a store do to them. -/
import Derived.Test.YtohkjiellcikhaaBase
import Derived.Lib.AppendStr
import Derived.Deep.AppendLies
namespace Go.Proofs.Ytohkjiellcikhaa
open Go.RowKit Go.Proofs.YtohkjiellcikhaaW.PrintWords Go.Proofs.YtohkjiellcikhaaW.PrintLast Go.Proofs.YtohkjiellcikhaaW.PrintMore
set_option linter.unusedVariables false
set_option linter.unusedSimpArgs false

def byteVals (l : List UInt8) : List Value := l.map fun b => Value.int .u8 (b.toNat : Int)
theorem byteVals_length (l : List UInt8) : (byteVals l).length = l.length := by simp [byteVals]
theorem byteVals_append (l m : List UInt8) : byteVals (l ++ m) = byteVals l ++ byteVals m := by simp [byteVals]
theorem byteVals_one (l : List UInt8) : ∀ u ∈ byteVals l, u.oneCell' = true := by
  intro u hu
  obtain ⟨b, _, rfl⟩ := List.mem_map.1 hu
  rfl
/-- A slice of bytes of the call's own (its block is from base on). -/
def OwnBytes (w : World) (base : Nat) (e : TypeId) (v : Value) (l : List UInt8) : Prop := w.ownsRow base e 1 v l.length (byteVals l)
theorem OwnBytes.nil (w : World) (base : Nat) (e : TypeId) : OwnBytes w base e (.slice none 0 0) [] := World.ownsRow_nil w base e 1
theorem OwnBytes.lit (w : World) (base : Nat) (e : TypeId) (l : List UInt8) (g : Nat) (hg : g = w.heap.size) (hb : base ≤ w.heap.size) (hm : l.length ≤ maxLen) : OwnBytes (w.alloc (.cells (byteVals l).toArray e)) base e (.slice (some ⟨g, 0, none⟩) l.length l.length) l := by
  subst hg
  exact World.ownsRow_lit w (byteVals l).toArray l.length hb hm (by simp [byteVals])
theorem OwnBytes.slice {w : World} {base : Nat} {e : TypeId} {v : Value} {l : List UInt8} (h : OwnBytes w base e v l) : ∃ A c, v = .slice A l.length c ∧ l.length ≤ c ∧ Bytes w A l ∧ (∀ k, v.ownBlock = some k → base ≤ k ∧ k < w.heap.size) := by
  have hlt := World.ownsRow.lt h
  rcases h.2 with ⟨rfl, hx⟩ | ⟨g, cap, cur, rfl, hg, hh, hn, hm, hc, ht⟩
  · have : l = [] := List.eq_nil_of_length_eq_zero hx
    subst this
    exact ⟨none, 0, rfl, by simp, Bytes.nil _ _, hlt⟩
  · refine ⟨some ⟨g, 0, none⟩, cap, rfl, hn, Bytes.row (by unfold maxLen at hm; omega) hh (fun k hk => ?_), hlt⟩
    have hk2 : k < (byteVals l).length := by rw [byteVals_length]; exact hk
    have : (cur.toList.take (l.length * 1))[k]? = (byteVals l)[k]? := by rw [ht]
    rw [List.getElem?_take, if_pos (by omega)] at this
    rw [← Array.getElem?_toList, this]
    simp [byteVals, hk]
theorem OwnBytes.kept {w w' : World} {base : Nat} {e : TypeId} {v : Value} {l : List UInt8} (h : OwnBytes w base e v l) (hk : ∀ k, v.ownBlock = some k → w'.heap[k]? = w.heap[k]?) : OwnBytes w' base e v l := own_move h hk
theorem OwnBytes.below {w w' : World} {base : Nat} {e : TypeId} {v : Value} {l : List UInt8} (h : OwnBytes w base e v l) (hb : Below w.heap.size w w') : OwnBytes w' base e v l := pw_own_below h hb

theorem OwnBytes.form {w : World} {base : Nat} {e : TypeId} {A : Option Addr} {n c : Nat} {l : List UInt8} (h : OwnBytes w base e (.slice A n c) l) (hp : 0 < l.length) : ∃ g, A = some ⟨g, 0, none⟩ ∧ n = l.length ∧ base ≤ g ∧ g < w.heap.size := by
  have hlt := World.ownsRow.lt h
  rcases h.2 with ⟨h1, hx⟩ | ⟨g, cap, cur, h1, hg, hh, hn, hm, hc, ht⟩
  · cases h1; have : l.length = 0 := hx; omega
  · cases h1; exact ⟨g, rfl, rfl, hg, (hlt g rfl).2⟩
theorem OwnBytes.cell {w : World} {base : Nat} {e : TypeId} {g n c : Nat} {l : List UInt8} (h : OwnBytes w base e (.slice (some ⟨g, 0, none⟩) n c) l) (j : Nat) (hj : j < l.length) : w.cell? ⟨g, j, none⟩ = some (.int .u8 (l[j].toNat : Int)) := by
  obtain ⟨A', c', h1, _, hb, _⟩ := h.slice
  cases h1
  obtain ⟨ad, e1, hc⟩ := hb.at j hj
  cases e1
  rw [add_plain] at hc
  exact hc
theorem OwnBytes.bytes {w : World} {base : Nat} {e : TypeId} {A : Option Addr} {n c : Nat} {l : List UInt8} (h : OwnBytes w base e (.slice A n c) l) : Bytes w A l := by
  obtain ⟨A', c', h1, _, hb, _⟩ := h.slice
  injection h1 with h1 _ _
  rw [h1]
  exact hb
theorem OwnBytes.frozen {w : World} {base : Nat} {e : TypeId} {g n c : Nat} {l : List UInt8} (h : OwnBytes w base e (.slice (some ⟨g, 0, none⟩) n c) l) (j : Nat) : w.frozen? ⟨g, j, none⟩ = false := by
  rcases h.2 with ⟨h1, hx⟩ | ⟨g', cap, cur, h1, hg, hh, hn, hm, hc, ht⟩
  · cases h1
  · cases h1; exact frozen_of_row _ _ _ _ _ hh
theorem OwnBytes.set {w : World} {base : Nat} {e : TypeId} {g n c : Nat} {l : List UInt8} (h : OwnBytes w base e (.slice (some ⟨g, 0, none⟩) n c) l) (j : Nat) (x : UInt8) (v : Int) (hv : v = (x.toNat : Int)) (hj : j < l.length) : OwnBytes (w.setCell ⟨g, j, none⟩ (.int .u8 v)) base e (.slice (some ⟨g, 0, none⟩) n c) (l.set j x) := by
  subst hv
  obtain ⟨h1, h2⟩ := h
  refine ⟨by simp [byteVals], ?_⟩
  rcases h2 with ⟨h3, hx⟩ | ⟨g', cap, cur, h3, hg, hh, hn, hm, hc, ht⟩
  · cases h3
  · cases h3
    refine .inr ⟨g, c, cur.setIfInBounds j (.int .u8 (x.toNat : Int)), by simp, hg, heap_setCell_same _ _ _ _ _ _ hh, by simpa using hn, hm, by simpa using hc, ?_⟩
    simp only [List.length_set, Nat.mul_one, Array.toList_setIfInBounds] at ht ⊢
    rw [List.take_set, ht]
    simp [byteVals]
theorem Bytes.news {w : World} {ad : Addr} {l : List UInt8} (h : Bytes w (some ad) l) : ∀ j u, (byteVals l)[j]? = some u → w.cell? (ad.add j) = some u := by
  intro j u hu
  have hj : j < l.length := by
    have := (List.getElem?_eq_some_iff.1 hu).1
    simpa [byteVals] using this
  obtain ⟨ad', e, hc⟩ := h.at j hj
  cases e
  rw [hc]
  simp [byteVals, hj] at hu
  rw [hu]
theorem Bytes.none_nil {w : World} {l : List UInt8} (h : Bytes w none l) : l = [] := by
  cases l with
  | nil => rfl
  | cons x l =>
    obtain ⟨ad, e, _⟩ := h.at 0 (by simp)
    cases e

theorem run_append_empty {P : Program} (w : World) (base : Nat) (t ty e : TypeId) (i : TypeInfo) (size : Nat) (ht : P.underlying t = some (.slice e)) (hi : P.info? e = some i)
    (v : Value) (n : Nat) (xs : List Value) (hown : w.ownsRow base e size v n xs) (c : Nat) :
    (Builtin.append_ #[t, t] ty #[v, .slice none 0 c]).run P w = .ok v w := by
  rcases hown.2 with ⟨rfl, rfl⟩ | ⟨g, cap, cur, rfl, _, _, hnc, _⟩
  · simp [Builtin.append_, run_underlying ht, sizeOf, typeInfo, hi, Builtin.lenOf, Builtin.firstCells]
  · simp [Builtin.append_, run_underlying ht, sizeOf, typeInfo, hi, Builtin.lenOf, Builtin.firstCells, hnc, storeCells]

/-- append(s, x...), bytes onto a slice of the call's own; what stands behind is any slice of bytes. -/
theorem run_app_bytes {P : Program} (w : World) (t ty e : TypeId) (base : Nat) (ht : P.underlying t = some (.slice e)) (hinf : (P.info? e).map (fun i => (i.zero, i.size, i.bytes)) = some (some (.int .u8 0), 1, 1))
    (v : Value) (l : List UInt8) (hown : OwnBytes w base e v l) (A : Option Addr) (c : Nat) (m : List UInt8) (hm : Bytes w A m) (hb : l.length + m.length ≤ 140737488355328) (hbase : base ≤ w.heap.size) :
    ∃ v' w', (Builtin.append_ #[t, t] ty #[v, .slice A m.length c]).run P w = .ok v' w' ∧ OwnBytes w' base e v' (l ++ m) ∧ w.grownBy w' v.ownBlock := by
  obtain ⟨i0, hi, hz0, hz1, hz2⟩ := info_parts hinf
  cases A with
  | none =>
    have := hm.none_nil
    subst this
    refine ⟨v, w, run_append_empty w base t ty e i0 1 ht hi v _ _ hown c, by simpa using hown, ⟨rfl, rfl, rfl, Nat.le_refl _, fun _ _ _ => rfl⟩⟩
  | some ad =>
    obtain ⟨v', w', hr, h2, h3, h4⟩ := run_append_own (P := P) w base t ty e i0 (.int .u8 0) 1 1 ht hi hz0 hz1 hz2 rfl (by decide) v _ _ hown ad m.length c (byteVals m) (by rw [byteVals_length, Nat.mul_one]) hm.news (byteVals_one m) (by unfold maxLen; omega) (by omega) hbase
    refine ⟨v', w', hr, ?_, h3⟩
    unfold OwnBytes
    rw [List.length_append, byteVals_append]
    exact h2
theorem wpList_app_bytes {P : Program} {ops : Array Oper} {rest : List Oper} {o : Oper} {a : Act} {w : World} {Q : Exit → Act → World → Prop} (hgd : o.guard = none) (s x : Operand) (t e : TypeId)
    (ho : o.op = .call { callee := .builtin .append, args := #[s, x], argTypes := #[t, t] })
    (base : Nat) (ht : P.underlying t = some (.slice e)) (hinf : (P.info? e).map (fun i => (i.zero, i.size, i.bytes)) = some (some (.int .u8 0), 1, 1))
    (v : Value) (l : List UInt8) (hs : a.eval s = v) (hown : OwnBytes w base e v l) (A : Option Addr) (c : Nat) (m : List UInt8) (hx : a.eval x = .slice A m.length c) (hm : Bytes w A m) (hb : l.length + m.length ≤ 140737488355328) (hbase : base ≤ w.heap.size)
    (h : ∀ A' c' lm w', Aside (lm = l ++ m) → Aside (OwnBytes w' base e (.slice A' lm.length c') lm) → Aside (lm.length ≤ c') → Aside (Bytes w' A' lm) → Aside (w.grownBy w' v.ownBlock) → wpList P ops Q rest (a.put o.dst (.slice A' lm.length c')) w') : wpList P ops Q (o :: rest) a w := by
  refine wpList_plain hgd fun K hK => ?_
  obtain ⟨v', w', hr, h2, h3⟩ := run_app_bytes (P := P) w t o.type e base ht hinf v l hown A c m hm hb hbase
  obtain ⟨A', c', rfl, hc, hby, _⟩ := h2.slice
  unfold Oper.wp execOp
  simp only [ho, resolve, invoke, builtin, Sem.run_bind, Sem.run_pure, Result.andThen_ok, List.map_toArray, List.map_cons, List.map_nil, hs, hx, hr]
  exact hK _ _ (h A' c' (l ++ m) w' ⟨rfl⟩ ⟨h2⟩ ⟨hc⟩ ⟨hby⟩ ⟨h3⟩)
theorem grown_below {w w' : World} {row : Option Nat} {B : Nat} (hg : w.grownBy w' row) (hB : B ≤ w.heap.size) (hr : ∀ k, row = some k → B ≤ k) : Below B w w' := (Below.refl B w).grown hg hB hr

theorem madeCells_one (z : Value) (n : Nat) : madeCells #[z] n = (List.replicate n z).toArray := by
  apply Array.ext'
  rw [toList_madeCells_one]
/-- make([]T, n), T of one cell. -/
theorem wpList_make_one {P : Program} {ops : Array Oper} {rest : List Oper} {o : Oper} {a : Act} {w : World} {Q : Exit → Act → World → Prop} (hgd : o.guard = none) (x y : Operand) (t e : TypeId)
    (ho : o.op = .makeSlice t x y) (ht : P.underlying t = some (.slice e)) (z : Value) (b : Nat) (hinf : (P.info? e).map (fun i => (i.zero, i.size, i.bytes)) = some (some z, 1, b)) (hz : z.cells = #[z])
    (n : Nat) (hx : a.eval x = .int .i64 (n : Int)) (hy : a.eval y = .int .i64 (n : Int)) (hb : b * n ≤ 281474976710656) (h63 : n ≤ 9223372036854775807)
    (h : wpList P ops Q rest (a.put o.dst (.slice (some ⟨w.heap.size, 0, none⟩) n n)) (w.alloc (.cells (List.replicate n z).toArray e))) : wpList P ops Q (o :: rest) a w := by
  refine wpList_plain hgd fun K hK => ?_
  obtain ⟨i0, hi, hz0, hz1, hz2⟩ := info_parts hinf
  have hbi : (i0.bytes : Int) * (n : Int) ≤ 281474976710656 := by
    have h1 : ((b * n : Nat) : Int) ≤ 281474976710656 := by omega
    rw [hz2]
    rwa [Int.natCast_mul] at h1
  have hr := run_make (P := P) w t e i0 z ht hi hz0 .i64 .i64 n n (by omega) (Int.le_refl _) hbi (by omega)
  simp only [Int.toNat_natCast, hz1, Nat.mul_one, hz, madeCells_one] at hr
  unfold Oper.wp execOp
  simp only [ho, hx, hy, Sem.run_bind, Sem.run_pure, Result.andThen_ok, hr]
  exact hK _ _ h
theorem Bytes.take {w : World} {A : Option Addr} {l : List UInt8} (h : Bytes w A l) (n : Nat) (hn : n ≤ l.length) : Bytes w A (l.take n) := by
  cases A with
  | none => have := h.none_nil; subst this; simpa using h
  | some ad => exact Bytes.mk (by have := h.len; simp; omega) (fun k hk => by
      have hk' : k < l.length := by simp at hk; omega
      obtain ⟨ad', e, hc⟩ := h.at k hk'
      cases e
      rw [hc]
      simp)

theorem run_min3_nat {P : Program} (w : World) (ats : Array TypeId) (ty : TypeId) (k : IntKind) (a b c : Nat) : (Builtin.min_ ats ty #[.int k (a : Int), .int k (b : Int), .int k (c : Int)]).run P w = .ok (.int k ((min (min a b) c : Nat) : Int)) w := by
  rw [min_three, min2_int]
  simp only [Sem.run_bind, Sem.run_pure, Result.andThen_ok, min2_int]
  congr 2
  split <;> split <;> omega
theorem run_min2_nat {P : Program} (w : World) (ats : Array TypeId) (ty : TypeId) (k : IntKind) (a b : Nat) : (Builtin.min_ ats ty #[.int k (a : Int), .int k (b : Int)]).run P w = .ok (.int k ((min a b : Nat) : Int)) w := by
  rw [min_two, min2_int]
  simp only [Sem.run_bind, Sem.run_pure, Result.andThen_ok]
  congr 2
  split <;> omega

theorem quiet_same {P : Program} {f : FuncId} {args : Array Value} {w : World} {n : Nat} {v : Value}
    (h : Calls P f args (w.drewN n) fun e w' => e = .returned v ∧ w.drewN n = w') : Calls P f args (w.drewN n) fun e w'' => e = .returned v ∧ ∃ m, w'' = w.drewN m :=
  h.mono fun _ _ ⟨he, hm⟩ => ⟨he, n, hm.symm⟩
theorem Bytes.drewN {w : World} {A : Option Addr} {l : List UInt8} (h : Bytes w A l) (n : Nat) : Bytes (w.drewN n) A l := h.below (pw_below_drewN (Below.refl _ _) n)

/-- .. and where the new slice lies: where it lay, or in a new block. -/
theorem run_app_bytes_at {P : Program} (w : World) (t ty e : TypeId) (base : Nat) (ht : P.underlying t = some (.slice e)) (hinf : (P.info? e).map (fun i => (i.zero, i.size, i.bytes)) = some (some (.int .u8 0), 1, 1))
    (v : Value) (l : List UInt8) (hown : OwnBytes w base e v l) (A : Option Addr) (c : Nat) (m : List UInt8) (hm : Bytes w A m) (hb : l.length + m.length ≤ 140737488355328) (hbase : base ≤ w.heap.size) :
    ∃ v' w', (Builtin.append_ #[t, t] ty #[v, .slice A m.length c]).run P w = .ok v' w' ∧ OwnBytes w' base e v' (l ++ m) ∧ w.grownBy w' v.ownBlock ∧ (v'.ownBlock = v.ownBlock ∨ v'.ownBlock = some w.heap.size) := by
  obtain ⟨i0, hi, hz0, hz1, hz2⟩ := info_parts hinf
  cases A with
  | none =>
    have := hm.none_nil
    subst this
    exact ⟨v, w, run_append_empty w base t ty e i0 1 ht hi v _ _ hown c, by simpa using hown, ⟨rfl, rfl, rfl, Nat.le_refl _, fun _ _ _ => rfl⟩, .inl rfl⟩
  | some ad =>
    obtain ⟨v', w', hr, h2, h3, _, h5⟩ := run_append_own_at (P := P) w base t ty e i0 (.int .u8 0) 1 1 ht hi hz0 hz1 hz2 rfl (by decide) v _ _ hown ad m.length c (byteVals m) (by rw [byteVals_length, Nat.mul_one]) hm.news (byteVals_one m) (by unfold maxLen; omega) (by omega) hbase
    refine ⟨v', w', hr, ?_, h3, h5⟩
    unfold OwnBytes
    rw [List.length_append, byteVals_append]
    exact h2
/-- At the operation; at a step of a region that draws. -/
theorem wp_app_at {P : Program} {o : Oper} {a : Act} {w : World} {K : Act → World → Prop} {Q : Exit → Act → World → Prop} (s x : Operand) (t e : TypeId)
    (ho : o.op = .call { callee := .builtin .append, args := #[s, x], argTypes := #[t, t] })
    (base : Nat) (ht : P.underlying t = some (.slice e)) (hinf : (P.info? e).map (fun i => (i.zero, i.size, i.bytes)) = some (some (.int .u8 0), 1, 1))
    (v : Value) (l : List UInt8) (hs : a.eval s = v) (hown : OwnBytes w base e v l) (A : Option Addr) (c n : Nat) (m : List UInt8) (hx : a.eval x = .slice A n c) (hn : m.length = n) (hm : Bytes w A m) (hb : l.length + m.length ≤ 140737488355328) (hbase : base ≤ w.heap.size)
    (h : ∀ A' c' n' lm w', Aside (lm = l ++ m) → Aside (n' = lm.length) → Aside (OwnBytes w' base e (.slice A' n' c') lm) → Aside (w.grownBy w' v.ownBlock) → Aside ((Value.slice A' n' c').ownBlock = v.ownBlock ∨ (Value.slice A' n' c').ownBlock = some w.heap.size) → K (a.put o.dst (.slice A' n' c')) w') : o.wp P a w K Q := by
  subst hn
  obtain ⟨v', w', hr, h2, h3, h4⟩ := run_app_bytes_at (P := P) w t o.type e base ht hinf v l hown A c m hm hb hbase
  obtain ⟨A', c', rfl, hc, hby, _⟩ := h2.slice
  unfold Oper.wp execOp
  simp only [ho, resolve, invoke, builtin, Sem.run_bind, Sem.run_pure, Result.andThen_ok, List.map_toArray, List.map_cons, List.map_nil, hs, hx, hr]
  exact h A' c' _ (l ++ m) w' ⟨rfl⟩ ⟨rfl⟩ ⟨h2⟩ ⟨h3⟩ ⟨h4⟩
theorem step_app_at {P : Program} {ops : Array Oper} {o : Oper} {a : Act} {w : World} {K : Act → World → Prop} {Q : Exit → Act → World → Prop} {E : Prop} (hgd : o.guard = none) (s x : Operand) (t e : TypeId)
    (ho : o.op = .call { callee := .builtin .append, args := #[s, x], argTypes := #[t, t] })
    (base : Nat) (ht : P.underlying t = some (.slice e)) (hinf : (P.info? e).map (fun i => (i.zero, i.size, i.bytes)) = some (some (.int .u8 0), 1, 1))
    (v : Value) (l : List UInt8) (hs : a.eval s = v) (hown : OwnBytes w base e v l) (A : Option Addr) (c n : Nat) (m : List UInt8) (hx : a.eval x = .slice A n c) (hn : m.length = n) (hm : Bytes w A m) (hb : l.length + m.length ≤ 140737488355328) (hbase : base ≤ w.heap.size)
    (h : ∀ A' c' n' lm w', Aside (lm = l ++ m) → Aside (n' = lm.length) → Aside (OwnBytes w' base e (.slice A' n' c') lm) → Aside (w.grownBy w' v.ownBlock) → Aside ((Value.slice A' n' c').ownBlock = v.ownBlock ∨ (Value.slice A' n' c').ownBlock = some w.heap.size) → K (a.put o.dst (.slice A' n' c')) w') :
    if Region.wanted o (yielded ops a.tmps) = true then Oper.wp P o a w K Q else E := by
  have hw : Region.wanted o (yielded ops a.tmps) = true := by simp [Region.wanted, hgd]
  rw [if_pos hw]
  exact wp_app_at s x t e ho base ht hinf v l hs hown A c n m hx hn hm hb hbase h
theorem wpList_app_at {P : Program} {ops : Array Oper} {rest : List Oper} {o : Oper} {a : Act} {w : World} {Q : Exit → Act → World → Prop} (hgd : o.guard = none) (s x : Operand) (t e : TypeId)
    (ho : o.op = .call { callee := .builtin .append, args := #[s, x], argTypes := #[t, t] })
    (base : Nat) (ht : P.underlying t = some (.slice e)) (hinf : (P.info? e).map (fun i => (i.zero, i.size, i.bytes)) = some (some (.int .u8 0), 1, 1))
    (v : Value) (l : List UInt8) (hs : a.eval s = v) (hown : OwnBytes w base e v l) (A : Option Addr) (c n : Nat) (m : List UInt8) (hx : a.eval x = .slice A n c) (hn : m.length = n) (hm : Bytes w A m) (hb : l.length + m.length ≤ 140737488355328) (hbase : base ≤ w.heap.size)
    (h : ∀ A' c' n' lm w', Aside (lm = l ++ m) → Aside (n' = lm.length) → Aside (OwnBytes w' base e (.slice A' n' c') lm) → Aside (w.grownBy w' v.ownBlock) → Aside ((Value.slice A' n' c').ownBlock = v.ownBlock ∨ (Value.slice A' n' c').ownBlock = some w.heap.size) → wpList P ops Q rest (a.put o.dst (.slice A' n' c')) w') : wpList P ops Q (o :: rest) a w :=
  wpList_plain hgd fun _ hK => wp_app_at s x t e ho base ht hinf v l hs hown A c n m hx hn hm hb hbase fun A' c' n' lm w' h1 h2 h3 h4 h5 => hK _ _ (h A' c' n' lm w' h1 h2 h3 h4 h5)

end Go.Proofs.Ytohkjiellcikhaa
