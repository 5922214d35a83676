/- Writer's Bits and Data on bits that stand, and alive() of law 01. -/
import Derived.Test.YtdiapljnhlonlaaWriter
import Derived.Laws.BytesArg
import Derived.Laws.IdiomStrings
namespace Go.Proofs.Ytdiapljnhlonlaa
open Go.RowKit Go.Proofs.YtdiapljnhlonlaaW.PrintWords Go.Proofs.YtdiapljnhlonlaaW.PrintLast Go.Proofs.YtdiapljnhlonlaaW.PrintMore
set_option linter.unusedVariables false
set_option linter.unusedSimpArgs false

theorem conv_str (w : World) (A : Option Addr) (l : List UInt8) (n c : Nat) (h : Bytes w A l) (hn : l.length = n) : (convert 29 9 (.slice A n c)).run Try.prog w = .ok (.string ⟨l.toArray⟩) w := by
  subst hn
  cases A with
  | none =>
    have := h.none_nil; subst this
    exact run_convert_bytes_nil w 29 5 Try.underlying29 Try.underlying5 0 c 9 Try.underlying9
  | some ad => exact run_convert_bytes_back w 29 9 5 ad c l Try.underlying29 Try.underlying5 Try.underlying9 (fun j hj => by
      obtain ⟨ad', e, hc⟩ := h.at j hj
      cases e
      exact hc)

theorem IsWriter.len {w : World} {base g : Nat} {r : Option Nat} {N len : Nat} (h : IsWriter w base g r N len) : N < 2 ^ len := by
  obtain ⟨l, wait, many, _, h8, hw, rfl, rfl⟩ := h
  have h1 := PB.num_lt l
  unfold PB.wnum
  rw [Nat.pow_add]
  have := Nat.mul_le_mul_left (2 ^ (8 * l.length)) (show wait + 1 ≤ 2 ^ many from hw)
  rw [Nat.mul_add] at this
  omega

theorem bits_WBits (w : World) (base g : Nat) (r : Option Nat) (N len : Nat) (h : IsWriter w base g r N len) (v : Int) (n : Nat) (hn : n ≤ 24) (hl : len ≤ 1000000000) :
    Calls Try.prog 50 #[.pointer (some ⟨g, 0, none⟩), .int .i64 v, .int .i64 (n : Int)] w fun e w' => e = .returned (.tuple #[]) ∧ ∃ r', IsWriter w' base g r' (N + (v % ((2 ^ n : Nat) : Int)).toNat * 2 ^ len) (len + n) ∧ WStep w w' g r r' := by
  obtain ⟨l, wait, many, hr, h8, hw, rfl, rfl⟩ := h
  refine (bits_WBits_raw w base g r l wait many hr h8 hw v n hn (by omega)).mono ?_
  rintro e w' ⟨rfl, r', l', wait', many', hr', h8', hw', hN, hL, hS⟩
  refine ⟨rfl, r', ⟨l', wait', many', hr', h8', hw', ?_, ?_⟩, hS⟩
  · rw [hN, PB.wnum_put]
  · rw [hL]

/-- The bytes of a writer. -/
def PB.wbytes (l : List UInt8) (wait many : Nat) : List UInt8 := if 0 < many then l ++ [UInt8.ofNat wait] else l

set_option maxHeartbeats 400000 in
set_option maxRecDepth 100000 in
theorem bits_Data (w : World) (base g : Nat) (r : Option Nat) (l : List UInt8) (wait many : Nat) (h : RawW w base g r l wait many) (h8 : many < 8) (hw : wait < 2 ^ many) (hl : l.length ≤ 1000000000) :
    Calls Try.prog 41 #[.pointer (some ⟨g, 0, none⟩)] w fun e w' => ∃ A' c' l', e = .returned (.slice A' l'.length c') ∧ Aside (l' = PB.wbytes l wait many) ∧ Aside (OwnBytes w' w.heap.size 5 (.slice A' l'.length c') l') ∧ Aside (Below w.heap.size w w') := by
  have HD : (PB.wbytes l wait many = if 0 < many then l ++ [UInt8.ofNat wait] else l) := rfl
  rw [HD]
  clear HD
  obtain ⟨A, n, c, hg, ho, hr, rfl, hb⟩ := h
  have h0 := cell_row (j := 0) hg (v := .slice A l.length c) rfl
  have HB := Aside.mk ho.bytes
  have HNN := Aside.mk (show A = none → c = 0 by
    intro e; subst e
    rcases ho.2 with ⟨h1, _⟩ | ⟨g', cap, cur, h1, _⟩
    · exact (Value.slice.inj h1).2.2
    · cases h1)
  have HW2 := Aside.mk (fun (w1 : World) (k : Below w.heap.size w w1) => cell_row (j := 2) ((k.block g (Array.getElem?_eq_some_iff.1 hg).1).trans hg) (v := .int .i64 (many : Int)) rfl)
  have HW1 := Aside.mk (fun (w1 : World) (k : Below w.heap.size w w1) => cell_row (j := 1) ((k.block g (Array.getElem?_eq_some_iff.1 hg).1).trans hg) (v := .int .i64 (wait : Int)) rfl)
  clear hg ho
  by_cases hm : 0 < many
  · have hmb : decide (0 < (many : Int)) = true := decide_eq_true (by omega)
    rw [if_pos hm]
    obtain ⟨b, hbe⟩ : ∃ b, wait % 256 = b := ⟨_, rfl⟩
    have hbl : b < 256 := by omega
    have hw8 : wait < 256 := Nat.lt_of_lt_of_le hw (Nat.le_trans (Nat.pow_le_pow_right (by decide) (show many ≤ 8 by omega)) (by decide))
    have hwb : wait = b := by omega
    have hwr : IntKind.u8.wrap (wait : Int) = (b : Int) := by rw [IntKind.wrap_u8']; omega
    have HSRC := Aside.mk (fun (w1 : World) => Bytes.lit (w := w1.alloc (.cells #[.int .u8 (b : Int)] 5)) (g := w1.heap.size) (t := 5) (fr := (0, 0)) [UInt8.ofNat b] (by simp) (by
      have : (UInt8.ofNat b).toNat = b := by rw [UInt8.toNat_ofNat']; omega
      simp only [List.map_cons, List.map_nil, this]
      exact heap_alloc_new w1 _))
    have hW := Aside.mk hwb
    clear hbe hwb
    go_enter Try.func41, Try.ntmps41
    go_wp2_with (first | (at_builtin; refine wpList_app_at rfl (.tmp 14) (.tmp 20) 29 5 rfl w.heap.size Try.underlying29 infoByteB (.slice A1 l1.length c1) l1 rfl (HO1.out.below ((Below.refl w1.heap.size w1).alloc (Nat.le_refl _) _)) (some ⟨w1.heap.size, 0, none⟩) 1 1 [UInt8.ofNat b] rfl rfl (HSRC.out w1) HLL (by have := hB1.size; simp; omega) ?_; intro A2 c2 n2 l2 w2 k1 k2 k3 k4 k5) | (go_at_call 53; refine (slices_Clone w A c l HB.out (by omega) HNN.out).mono ?_; rintro e w1 ⟨A1, c1, l1, rfl, HL1, HO1, HB1⟩; have hB1 := HB1.out; have h2w := HW2.out w1 HB1.out; have h1w := HW1.out w1 HB1.out; have HLL : l1.length + [UInt8.ofNat b].length ≤ 140737488355328 := (by rw [HL1.out, List.length_singleton]; omega)))
    go_ret
    have hn := k2.out
    subst hn
    refine ⟨A2, c2, l2, rfl, ⟨?_⟩, k3, ⟨?_⟩⟩
    · rw [k1.out, HL1.out, hW.out]
    · refine hB1.trans ?_
      refine (((Below.refl w.heap.size w1).alloc hB1.size (.cells #[.int .u8 (b : Int)] 5)).trans (grown_below k4.out (B := w.heap.size) (by have := hB1.size; simp; omega) (by intro k hk; exact (HO1.out.slice).choose_spec.choose_spec.2.2.2 k hk |>.1)))
  · have hmb : decide (0 < (many : Int)) = false := decide_eq_false (by omega)
    rw [if_neg hm]
    go_enter Try.func41, Try.ntmps41
    go_wp2_with (go_at_call 53; refine (slices_Clone w A c l HB.out (by omega) HNN.out).mono ?_; rintro e w1 ⟨A1, c1, l1, rfl, HL1, HO1, HB1⟩; have hB1 := HB1.out; have h2w := HW2.out w1 HB1.out)
    go_ret
    exact ⟨A1, c1, l1, rfl, HL1, HO1, HB1⟩

theorem IsWriter.few {w : World} {base g : Nat} {r : Option Nat} {N len : Nat} (h : IsWriter w base g r N len) (hl : len < 8) : RawW w base g r [] N len := by
  obtain ⟨l, wait, many, hr, h8, hw, rfl, rfl⟩ := h
  obtain rfl : l = [] := List.eq_nil_of_length_eq_zero (by omega)
  simpa [PB.wnum, PB.num] using hr
theorem IsWriter.kept {w w' : World} {base g : Nat} {r : Option Nat} {N len : Nat} (h : IsWriter w base g r N len) (hk : ∀ k, k < w.heap.size → (k = g ∨ some k = r) → w'.heap[k]? = w.heap[k]?) : IsWriter w' base g r N len := by
  obtain ⟨l, wait, many, ⟨A, n, c, hg, ho, hr, hn, hb⟩, rest⟩ := h
  have hgl : g < w.heap.size := (Array.getElem?_eq_some_iff.1 hg).1
  refine ⟨l, wait, many, ⟨A, n, c, (hk g hgl (.inl rfl)).trans hg, ho.kept (fun k hk' => hk k (World.ownsRow.lt ho k hk').2 (.inr (by rw [hr]; exact hk'.symm))), hr, hn, hb⟩, rest⟩
theorem IsWriter.lt {w : World} {base g : Nat} {r : Option Nat} {N len : Nat} (h : IsWriter w base g r N len) : base ≤ g ∧ g < w.heap.size ∧ (∀ k, r = some k → base ≤ k ∧ k < w.heap.size) := by
  obtain ⟨l, wait, many, ⟨A, n, c, hg, ho, rfl, hn, hb⟩, rest⟩ := h
  exact ⟨hb, (Array.getElem?_eq_some_iff.1 hg).1, fun k hk => World.ownsRow.lt ho k hk⟩
theorem alive_new (w : World) : Calls Try.prog 28 #[.slice (some ⟨w.heap.size, 0, none⟩) 2 2] (w.alloc (.cells #[.int .u8 5, .int .u8 129] 5)) fun e w' => ∃ g, e = .returned (.pointer (some ⟨g, 0, none⟩)) ∧ Aside (IsReader w' (w.heap.size + 1) g [5, 129] 0) ∧ Aside (Below w.heap.size w w') ∧ Aside (w.heap.size < g) := by
  have hb : Bytes (w.alloc (.cells #[.int .u8 5, .int .u8 129] 5)) (some ⟨w.heap.size, 0, none⟩) [5, 129] := Bytes.lit (fr := (0, 0)) [5, 129] (by simp) (heap_alloc_new w _)
  refine (bits_NewReader _ _ 2 [5, 129] hb (by simp) (by simp) (fun h => by cases h)).mono ?_
  rintro e w' ⟨g, rfl, h1, h2, h3⟩
  have h4 := (Below.refl w.heap.size w).alloc (Nat.le_refl _) (.cells #[.int .u8 5, .int .u8 129] 5)
  simp at h3 h1
  exact ⟨g, rfl, ⟨h1⟩, ⟨h4.trans (h2.mono (by simp))⟩, ⟨by omega⟩⟩
theorem alive_bits (w : World) (B g p n : Nat) (x : Int) (h : IsReader w B g [5, 129] p) (hn : n ≤ 24) (hl : n ≤ 16 - p) (hx : ((PB.tk (PB.num [5, 129]) p n : Nat) : Int) = x) :
    Calls Try.prog 29 #[.pointer (some ⟨g, 0, none⟩), .int .i64 (n : Int)] w fun e w' => e = .returned (.tuple #[.int .i64 x, .bool true]) ∧ Aside (IsReader w' B g [5, 129] (p + n)) ∧ Aside (Only w w' (fun k => k = g)) := by
  subst hx
  refine (bits_Bits_yes w B g [5, 129] p h n hn (by simpa using hl)).mono ?_
  rintro e w' ⟨h1, h2, h3, _⟩
  exact ⟨h1, ⟨h2⟩, ⟨h3⟩⟩
theorem alive_lay (w : World) (base g : Nat) (r : Option Nat) (N len : Nat) (h : IsWriter w base g r N len) (v : Int) (n : Nat) (hn : n ≤ 24) (hl : len ≤ 100) (N' len' : Nat) (hN : N' = N + (v % ((2 ^ n : Nat) : Int)).toNat * 2 ^ len) (hlen : len' = len + n) :
    Calls Try.prog 50 #[.pointer (some ⟨g, 0, none⟩), .int .i64 v, .int .i64 (n : Int)] w fun e w' => ∃ r', e = .returned (.tuple #[]) ∧ Aside (IsWriter w' base g r' N' len') ∧ Aside (WStep w w' g r r') := by
  subst hN hlen
  refine (bits_WBits w base g r N len h v n hn (by omega)).mono ?_
  rintro e w' ⟨rfl, r', h1, h2⟩
  exact ⟨r', rfl, ⟨h1⟩, ⟨h2⟩⟩

end Go.Proofs.Ytdiapljnhlonlaa
