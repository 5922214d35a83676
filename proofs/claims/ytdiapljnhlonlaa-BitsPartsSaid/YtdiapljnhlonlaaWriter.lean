/- The contracts of bits.Writer. -/
import Derived.Test.YtdiapljnhlonlaaReader
import Derived.Deep.RegionHeld3
namespace Go.Proofs.Ytdiapljnhlonlaa
open Go.RowKit Go.Proofs.YtdiapljnhlonlaaW.PrintWords Go.Proofs.YtdiapljnhlonlaaW.PrintLast Go.Proofs.YtdiapljnhlonlaaW.PrintMore
set_option linter.unusedVariables false
set_option linter.unusedSimpArgs false

/-- The block of a Writer: whole bytes l, and bits that wait. -/
def RawW (w : World) (base g : Nat) (r : Option Nat) (l : List UInt8) (wait many : Nat) : Prop :=
  ∃ A n c, w.heap[g]? = some (.cells #[.slice A n c, .int .i64 (wait : Int), .int .i64 (many : Int)] 86) ∧ OwnBytes w base 5 (.slice A n c) l ∧ r = (Value.slice A n c).ownBlock ∧ n = l.length ∧ base ≤ g
/-- A Writer in which len bits stand, which are those of N. -/
def IsWriter (w : World) (base g : Nat) (r : Option Nat) (N len : Nat) : Prop :=
  ∃ l wait many, RawW w base g r l wait many ∧ many < 8 ∧ wait < 2 ^ many ∧ N = PB.wnum l wait ∧ len = 8 * l.length + many
/-- What a call on a writer turns: its block, and its row; the row stays, or is new. -/
def WStep (w w' : World) (g : Nat) (r r' : Option Nat) : Prop := Only w w' (fun k => k = g ∨ some k = r) ∧ (r' = r ∨ ∃ b, r' = some b ∧ w.heap.size ≤ b)
theorem WStep.refl (w : World) (g : Nat) (r : Option Nat) : WStep w w g r r := ⟨Only.refl _ _, .inl rfl⟩
theorem WStep.trans {a b c : World} {g : Nat} {r r1 r2 : Option Nat} (h : WStep a b g r r1) (k : WStep b c g r1 r2) : WStep a c g r r2 := by
  obtain ⟨h1, h2⟩ := h
  obtain ⟨k1, k2⟩ := k
  refine ⟨h1.trans k1 (fun i hi hs => ?_), ?_⟩
  · rcases hs with rfl | hs
    · exact .inl rfl
    · rcases h2 with rfl | ⟨b', rfl, hb⟩
      · exact .inr hs
      · injection hs with hs; omega
  · rcases k2 with rfl | ⟨b', rfl, hb⟩
    · exact h2
    · exact .inr ⟨b', rfl, Nat.le_trans h1.size hb⟩
theorem RawW.ne {w : World} {base g : Nat} {r : Option Nat} {l : List UInt8} {wait many : Nat} (h : RawW w base g r l wait many) : some g ≠ r := by
  obtain ⟨A, n, c, hg, ho, rfl, _⟩ := h
  intro e
  obtain ⟨cells, hc⟩ := own_typed ho g e.symm
  rw [hg] at hc
  injection hc with hc
  injection hc with _ hc
  exact absurd hc (by decide)
theorem RawW.drewN {w : World} {base g : Nat} {r : Option Nat} {l : List UInt8} {wait many : Nat} (h : RawW w base g r l wait many) (n : Nat) : RawW (w.drewN n) base g r l wait many := by
  obtain ⟨A, n', c, hg, ho, r⟩ := h
  exact ⟨A, n', c, hg, ho.below (pw_below_drewN (Below.refl _ _) n), r⟩
theorem RawW.setWait {w : World} {base g : Nat} {r : Option Nat} {l : List UInt8} {wait many : Nat} (h : RawW w base g r l wait many) (x : Int) (y : Nat) (hx : x = (y : Int)) : RawW (w.setCell ⟨g, 1, none⟩ (.int .i64 x)) base g r l y many := by
  subst hx
  have hne := h.ne
  obtain ⟨A, n, c, hg, ho, rfl, hn, hb⟩ := h
  refine ⟨A, n, c, ?_, ho.kept (fun k hk => heap_setCell_other _ _ _ _ (by intro e; subst e; exact hne hk.symm)), rfl, hn, hb⟩
  rw [heap_setCell_same _ _ _ _ _ _ hg]; rfl
theorem RawW.setMany {w : World} {base g : Nat} {r : Option Nat} {l : List UInt8} {wait many : Nat} (h : RawW w base g r l wait many) (x : Int) (y : Nat) (hx : x = (y : Int)) : RawW (w.setCell ⟨g, 2, none⟩ (.int .i64 x)) base g r l wait y := by
  subst hx
  have hne := h.ne
  obtain ⟨A, n, c, hg, ho, rfl, hn, hb⟩ := h
  refine ⟨A, n, c, ?_, ho.kept (fun k hk => heap_setCell_other _ _ _ _ (by intro e; subst e; exact hne hk.symm)), rfl, hn, hb⟩
  rw [heap_setCell_same _ _ _ _ _ _ hg]; rfl

/-- The row has grown by an append, and its slice is stored. -/
theorem RawW.app {w wa w2 : World} {base g : Nat} {A : Option Addr} {n c : Nat} {wait many : Nat} {A2 : Option Addr} {n2 c2 : Nat} {l2 : List UInt8}
    (hg : w.heap[g]? = some (.cells #[.slice A n c, .int .i64 (wait : Int), .int .i64 (many : Int)] 86)) (hb : base ≤ g) (hne : some g ≠ (Value.slice A n c).ownBlock) (hwa : Only w wa (fun _ => False))
    (k2 : n2 = l2.length) (k3 : OwnBytes w2 base 5 (.slice A2 n2 c2) l2) (k4 : wa.grownBy w2 (Value.slice A n c).ownBlock) (k5 : (Value.slice A2 n2 c2).ownBlock = (Value.slice A n c).ownBlock ∨ (Value.slice A2 n2 c2).ownBlock = some wa.heap.size) :
    RawW (w2.setCell ⟨g, 0, none⟩ (.slice A2 n2 c2)) base g (Value.slice A2 n2 c2).ownBlock l2 wait many ∧ WStep w (w2.setCell ⟨g, 0, none⟩ (.slice A2 n2 c2)) g (Value.slice A n c).ownBlock (Value.slice A2 n2 c2).ownBlock := by
  have hgl : g < w.heap.size := (Array.getElem?_eq_some_iff.1 hg).1
  have hsz := hwa.size
  have hg2 : w2.heap[g]? = some (.cells #[.slice A n c, .int .i64 (wait : Int), .int .i64 (many : Int)] 86) := by
    rw [k4.block g (by omega) hne, hwa.block g hgl (fun h => h)]; exact hg
  have hne2 : some g ≠ (Value.slice A2 n2 c2).ownBlock := by
    rcases k5 with e | e
    · rw [e]; exact hne
    · rw [e]; intro h; injection h with h; omega
  refine ⟨⟨A2, n2, c2, ?_, k3.kept (fun k hk => heap_setCell_other _ _ _ _ (by intro e; subst e; exact hne2 hk.symm)), rfl, k2, hb⟩, ?_, ?_⟩
  · rw [heap_setCell_same _ _ _ _ _ _ hg2]; rfl
  · refine ((hwa.mono (fun _ _ h => h.elim)).trans ((Only.of_grown k4).mono (fun _ _ h => .inr h)) (fun _ _ h => h)).setCell (p := ⟨g, 0, none⟩) (.inl (.inl rfl)) _
  · rcases k5 with e | e
    · exact .inl e
    · exact .inr ⟨_, e, hsz⟩

theorem bits_NewWriter (w : World) :
    Calls Try.prog 49 #[] w fun e w' => ∃ g, e = .returned (.pointer (some ⟨g, 0, none⟩)) ∧ IsWriter w' w.heap.size g none 0 0 ∧ Below w.heap.size w w' ∧ w.heap.size ≤ g := by
  go_enter Try.func49, Try.ntmps49
  go_wp2_with fail
  go_ret
  exact ⟨w.heap.size, rfl, ⟨[], 0, 0, ⟨none, 0, 0, heap_alloc_new _ _, OwnBytes.nil _ _ _, rfl, rfl, Nat.le_refl _⟩, by omega, by decide, rfl, rfl⟩, (Below.refl _ w).alloc (Nat.le_refl _) _, Nat.le_refl _⟩

set_option maxHeartbeats 400000 in
set_option maxRecDepth 100000 in
theorem bits_Len (w : World) (base g : Nat) (r : Option Nat) (N len : Nat) (h : IsWriter w base g r N len) (hl : len ≤ 1125899906842624) :
    Calls Try.prog 40 #[.pointer (some ⟨g, 0, none⟩)] w fun e w' => e = .returned (.int .i64 (len : Int)) ∧ ∃ m, w' = w.drewN m := by
  obtain ⟨l, wait, many, ⟨A, n, c, hg, ho, hr, rfl, hb⟩, h8, hw, hN, rfl⟩ := h
  have h0 := cell_row (j := 0) hg (v := .slice A l.length c) rfl
  have h2 := cell_row (j := 2) hg (v := .int .i64 (many : Int)) rfl
  clear hg ho
  go_enter Try.func40, Try.ntmps40
  go_wp2_with fail
  go_quiet (fail)
  go_wp2_with fail
  go_ret
  exact ⟨by go_num, nq, rfl⟩

set_option maxHeartbeats 400000 in
set_option maxRecDepth 100000 in
theorem bits_WBits_no (w : World) (g : Nat) (v n : Int) (hn : n < 0 ∨ 24 < n) :
    Calls Try.prog 50 #[.pointer (some ⟨g, 0, none⟩), .int .i64 v, .int .i64 n] w fun e w' => e = .returned (.tuple #[]) ∧ w = w' := by
  by_cases h0 : n < 0
  · have hb : decide (n < 0) = true := decide_eq_true h0
    go_enter Try.func50, Try.ntmps50
    go_wp2_with fail
    refine bodyPost_ret (results_none rfl _ _ _) rfl ?_
    exact ⟨rfl, rfl⟩
  · have hb : decide (n < 0) = false := decide_eq_false h0
    have hb1 : decide (24 < n) = true := decide_eq_true (by omega)
    go_enter Try.func50, Try.ntmps50
    go_wp2_with fail
    refine bodyPost_ret (results_none rfl _ _ _) rfl ?_
    exact ⟨rfl, rfl⟩

theorem wbits_val (v : Int) (n many wait : Nat) (hn : n ≤ 24) (hm : many < 8) (hw : wait < 2 ^ many) :
    bits .or .i64 (wait : Int) (wrap64 (bits .and .i64 v (wrap64 (wrap64 ((2 : Int) ^ n) - 1)) * 2 ^ many)) = ((wait + (v % ((2 ^ n : Nat) : Int)).toNat * 2 ^ many : Nat) : Int) := by
  have hp : (0 : Int) < ((2 ^ n : Nat) : Int) := by have := Nat.two_pow_pos n; omega
  have h0 := Int.emod_nonneg v (Int.ne_of_gt hp)
  have h1 := Int.emod_lt_of_pos v hp
  obtain ⟨x, hx⟩ := Int.eq_ofNat_of_zero_le h0
  have hxl : x < 2 ^ n := by omega
  obtain ⟨e1, e2⟩ := PB.put_wait wait many x n hw hxl
  have h31 := PB.pow31 (many + n) (by omega)
  rw [mask_form' _ _ (by omega), hx, wrap_shl' _ _ _ rfl (by omega), i64_or_nat _ _ (by omega) (by omega), e1]
  rfl

set_option maxHeartbeats 1000000 in
set_option maxRecDepth 100000 in
theorem bits_WBits_raw (w : World) (base g : Nat) (r : Option Nat) (l : List UInt8) (wait many : Nat) (h : RawW w base g r l wait many) (h8 : many < 8) (hw : wait < 2 ^ many) (v : Int) (n : Nat) (hn : n ≤ 24) (hl : l.length ≤ 140737488355310) :
    Calls Try.prog 50 #[.pointer (some ⟨g, 0, none⟩), .int .i64 v, .int .i64 (n : Int)] w fun e w' => e = .returned (.tuple #[]) ∧ ∃ r' l' wait' many', RawW w' base g r' l' wait' many' ∧ many' < 8 ∧ wait' < 2 ^ many' ∧
      PB.wnum l' wait' = PB.wnum l (wait + (v % ((2 ^ n : Nat) : Int)).toNat * 2 ^ many) ∧ 8 * l'.length + many' = 8 * l.length + many + n ∧ WStep w w' g r r' := by
  have hval := wbits_val v n many wait hn h8 hw
  have hx : (v % ((2 ^ n : Nat) : Int)).toNat < 2 ^ n := by
    have hp : (0 : Int) < ((2 ^ n : Nat) : Int) := by have := Nat.two_pow_pos n; omega
    have h0 := Int.emod_nonneg v (Int.ne_of_gt hp)
    have h1 := Int.emod_lt_of_pos v hp
    omega
  have hW := (PB.put_wait wait many _ n hw hx).2
  have h31 := PB.pow31 (many + n) (by omega)
  generalize wait + (v % ((2 ^ n : Nat) : Int)).toNat * 2 ^ many = W at *
  have H := Aside.mk h
  obtain ⟨A, n0, c, hg, ho, hr, hn0, hb⟩ := h
  have h1 := cell_row (j := 1) hg (v := .int .i64 (wait : Int)) rfl
  have h2 := cell_row (j := 2) hg (v := .int .i64 (many : Int)) rfl
  have hf1 := frozen_of_row _ g 1 _ _ hg
  have hf2 := frozen_of_row _ g 2 _ _ hg
  have hb0 : decide ((n : Int) < 0) = false := decide_eq_false (by omega)
  have hb1 : decide (24 < (n : Int)) = false := decide_eq_false (by omega)
  have HV := Aside.mk hval
  have hH2 := (H.out.drewN 1).setWait (bits .or .i64 (wait : Int) (wrap64 (bits .and .i64 v (wrap64 (wrap64 ((2 : Int) ^ n) - 1)) * 2 ^ many))) W hval
  have hcell2 : ((w.drewN 1).setCell ⟨g, 1, none⟩ (.int .i64 (bits .or .i64 (wait : Int) (wrap64 (bits .and .i64 v (wrap64 (wrap64 ((2 : Int) ^ n) - 1)) * 2 ^ many))))).cell? ⟨g, 2, none⟩ = some (.int .i64 (many : Int)) := by
    obtain ⟨A', n', c', hg', _⟩ := hH2
    exact cell_row hg' rfl
  clear hg ho hr hn0 hval
  go_enter Try.func50, Try.ntmps50
  go_wp2_with fail
  go_still_tail 17, (by kernel_rfl)
  change wpList _ _ _ _ _ w.drew
  go_wp2_with fail
  go_loopg [40] 3 (fun gk v40 wr => ∃ (r' : Option Nat) (l' : List UInt8) (wait' many' : Nat), Aside (RawW wr base g r' l' wait' many') ∧ Aside (wait' < 2 ^ many') ∧ many' ≤ 8 * gk + 7 ∧ gk ≤ 3 ∧ Aside (PB.wnum l' wait' = PB.wnum l W) ∧ Aside (8 * l'.length + many' = 8 * l.length + many + n) ∧ Aside (WStep w wr g r r'))
  case atStart =>
    refine ⟨r, l, W, many + n, ⟨((H.out.setWait _ W HV.out).setMany _ (many + n) (by omega)).drewN 1⟩, ⟨hW⟩, by omega, by omega, ⟨rfl⟩, ⟨by omega⟩, ⟨⟨(((Only.refl w _).setCell (p := ⟨g, 1, none⟩) (.inl (.inl rfl)) _).setCell (p := ⟨g, 2, none⟩) (.inl (.inl rfl)) _).drewN 1, .inl rfl⟩⟩⟩
  case round =>
    clear H HV h1 h2 hf1 hf2 hH2 hcell2 hw hW h31 hx
    obtain ⟨r', l', wait', many', HR, HW, hm7, hgk, HN, HL, HS⟩ := hrel
    have H := HR
    obtain ⟨A', n', c', hg, ho, hr, hn', hbg⟩ := HR.out
    have h2 := cell_row (j := 2) hg (v := .int .i64 (many' : Int)) rfl
    have hr0 := Aside.mk hr
    by_cases hge : 8 ≤ many'
    · cases gk with
      | zero => omega
      | succ gk =>
        have hgeb : decide (8 ≤ (many' : Int)) = true := decide_eq_true (by omega)
        have h0 := cell_row (j := 0) hg (v := .slice A' n' c') rfl
        have h1 := cell_row (j := 1) hg (v := .int .i64 (wait' : Int)) rfl
        obtain ⟨b, hb⟩ : ∃ b, wait' % 256 = b := ⟨_, rfl⟩
        have hll : l'.length + [UInt8.ofNat (b)].length ≤ 140737488355328 := by
          have := HL.out; rw [List.length_singleton]; omega
        have hbl : b < 256 := by omega
        have hwr : IntKind.u8.wrap (wait' : Int) = (b : Int) := by rw [IntKind.wrap_u8']; omega
        have HOA := Aside.mk (fun o => (ho.below (((Below.refl wr.heap.size wr).drew).alloc (Nat.le_refl _) o)))
        have HSRC := Aside.mk (Bytes.lit (w := wr.drew.alloc (.cells #[.int .u8 (b : Int)] 5)) (g := wr.heap.size) (t := 5) (fr := (0, 0)) [UInt8.ofNat b] (by simp) (by
          have : (UInt8.ofNat b).toNat = b := by rw [UInt8.toNat_ofNat']; omega
          simp only [List.map_cons, List.map_nil, this]
          exact heap_alloc_new wr.drew _))
        have HB := Aside.mk (show (UInt8.ofNat b).toNat = wait' % 256 by rw [UInt8.toNat_ofNat', ← hb]; omega)
        have hne : some g ≠ (Value.slice A' n' c').ownBlock := by rw [← hr]; exact H.out.ne
        have hgl : g < wr.heap.size := (Array.getElem?_eq_some_iff.1 hg).1
        have hsz : (wr.drew.alloc (.cells #[.int .u8 (b : Int)] 5)).heap.size = wr.heap.size + 1 := by simp [World.alloc]
        have hbase : base ≤ (wr.drew.alloc (.cells #[.int .u8 (b : Int)] 5)).heap.size := by rw [hsz]; omega
        have hga : (wr.drew.alloc (.cells #[.int .u8 (b : Int)] 5)).heap[g]? = some (.cells #[.slice A' n' c', .int .i64 (wait' : Int), .int .i64 (many' : Int)] 86) := by
          rw [((Below.refl wr.heap.size wr).drew.alloc (Nat.le_refl _) _).block g hgl]; exact hg
        have HC0 := Aside.mk (cell_row (j := 0) hga (v := .slice A' n' c') rfl)
        have HC1 := Aside.mk (cell_row (j := 1) hga (v := .int .i64 (wait' : Int)) rfl)
        have HGW := Aside.mk (fun (w2 : World) (k : (wr.drew.alloc (.cells #[.int .u8 (b : Int)] 5)).grownBy w2 (Value.slice A' n' c').ownBlock) => (k.block g (by rw [hsz]; exact Nat.lt_succ_of_lt hgl) hne).trans hga)
        have HCW := Aside.mk (fun (w2 : World) k => cell_row (j := 0) (HGW.out w2 k) (v := .slice A' n' c') rfl)
        have HFW := Aside.mk (fun (w2 : World) k => frozen_of_row w2 g 0 _ _ (HGW.out w2 k))
        have HON := Aside.mk ((((Only.refl wr (fun _ => False)).drewN 1).alloc (o := (.cells #[.int .u8 (b : Int)] 5))))
        have HAPP := Aside.mk (fun {w2 A2 n2 c2 l2} => RawW.app (w2 := w2) (A2 := A2) (n2 := n2) (c2 := c2) (l2 := l2) hg hbg hne HON.out)
        clear hne hga hgl hsz hr hn' hbg
        clear hg ho hb
        go_wp2_with fail
        refine start_ (n := 15) (S := fun w' => w'.cell? ⟨g, 0, none⟩ = some (.slice A' n' c') ∧ w'.cell? ⟨g, 1, none⟩ = some (.int .i64 (wait' : Int))) (ds := [11, 14]) #[false, false, false, false, false, false, false, false, false, false, false, false, false, false, false] (by kernel_rfl) rfl rfl (⟨h0, h1⟩) (fun hHeld => ?_)
        refine pure_ (i := 0) (N := (some 42)) (v := ?_) (a' := ?_) #[true, false, false, false, false, false, false, false, false, false, false, false, false, false, false] rfl rfl (by kernel_rfl) (fun _ _ _ h => h) (Or.inl ⟨by rfl, ?_⟩) ?_ ?_
        rotate_left
        · intro w'
          go_simp
          with_reducible rfl
        rotate_left
        · simp only [Act.put, List.setIfInBounds_toArray, List.set_cons_zero, List.set_cons_succ]
          rfl
        refine pure_ (i := 1) (N := (some 43)) (v := ?_) (a' := ?_) #[true, true, false, false, false, false, false, false, false, false, false, false, false, false, false] rfl rfl (by kernel_rfl) (fun _ _ _ h => h) (Or.inl ⟨by rfl, ?_⟩) ?_ ?_
        rotate_left
        · intro w'
          go_simp
          with_reducible rfl
        rotate_left
        · simp only [Act.put, List.setIfInBounds_toArray, List.set_cons_zero, List.set_cons_succ]
          rfl
        refine pure_ (i := 2) (N := (some 44)) (v := ?_) (a' := ?_) #[true, true, true, false, false, false, false, false, false, false, false, false, false, false, false] rfl rfl (by kernel_rfl) (fun _ _ _ h => h) (Or.inl ⟨by rfl, ?_⟩) ?_ ?_
        rotate_left
        · intro w'
          go_simp
          with_reducible rfl
        rotate_left
        · simp only [Act.put, List.setIfInBounds_toArray, List.set_cons_zero, List.set_cons_succ]
          rfl
        refine pure_ (i := 3) (N := (some 45)) (v := ?_) (a' := ?_) #[true, true, true, true, false, false, false, false, false, false, false, false, false, false, false] rfl rfl (by kernel_rfl) (fun _ _ _ h => h) (Or.inl ⟨by rfl, ?_⟩) ?_ ?_
        rotate_left
        · intro w'
          go_simp
          with_reducible rfl
        rotate_left
        · simp only [Act.put, List.setIfInBounds_toArray, List.set_cons_zero, List.set_cons_succ]
          rfl
        refine take_ (i := 4) (N := (some 46)) (v := ?_) (a' := ?_) #[true, true, true, true, true, false, false, false, false, false, false, false, false, false, false] rfl rfl (by kernel_rfl) (fun _ _ _ h => h) (Or.inl ⟨by rfl, ?_⟩) hHeld ?_ ?_
        rotate_left
        · rintro w' ⟨s0, s1⟩
          go_simp
          with_reducible rfl
        rotate_left
        · simp only [Act.put, List.setIfInBounds_toArray, List.set_cons_zero, List.set_cons_succ]
          rfl
        refine pure_ (i := 5) (N := (some 47)) (v := ?_) (a' := ?_) #[true, true, true, true, true, true, false, false, false, false, false, false, false, false, false] rfl rfl (by kernel_rfl) (fun _ _ _ h => h) (Or.inl ⟨by rfl, ?_⟩) ?_ ?_
        rotate_left
        · intro w'
          go_simp
          with_reducible rfl
        rotate_left
        · simp only [Act.put, List.setIfInBounds_toArray, List.set_cons_zero, List.set_cons_succ]
          rfl
        refine pure_ (i := 6) (N := (some 48)) (v := ?_) (a' := ?_) #[true, true, true, true, true, true, true, false, false, false, false, false, false, false, false] rfl rfl (by kernel_rfl) (fun _ _ _ h => h) (Or.inl ⟨by rfl, ?_⟩) ?_ ?_
        rotate_left
        · intro w'
          go_simp
          with_reducible rfl
        rotate_left
        · simp only [Act.put, List.setIfInBounds_toArray, List.set_cons_zero, List.set_cons_succ]
          rfl
        refine pure_ (i := 7) (N := (some 49)) (v := ?_) (a' := ?_) #[true, true, true, true, true, true, true, true, false, false, false, false, false, false, false] rfl rfl (by kernel_rfl) (fun _ _ _ h => h) (Or.inl ⟨by rfl, ?_⟩) ?_ ?_
        rotate_left
        · intro w'
          go_simp
          with_reducible rfl
        rotate_left
        · simp only [Act.put, List.setIfInBounds_toArray, List.set_cons_zero, List.set_cons_succ]
          rfl
        refine take_ (i := 8) (N := (some 50)) (v := ?_) (a' := ?_) #[true, true, true, true, true, true, true, true, true, false, false, false, false, false, false] rfl rfl (by kernel_rfl) (fun _ _ _ h => h) (Or.inl ⟨by rfl, ?_⟩) hHeld ?_ ?_
        rotate_left
        · rintro w' ⟨s0, s1⟩
          go_simp
          with_reducible rfl
        rotate_left
        · simp only [Act.put, List.setIfInBounds_toArray, List.set_cons_zero, List.set_cons_succ]
          rfl
        refine pure_ (i := 9) (N := (some 51)) (v := ?_) (a' := ?_) #[true, true, true, true, true, true, true, true, true, true, false, false, false, false, false] rfl rfl (by kernel_rfl) (fun _ _ _ h => h) (Or.inl ⟨by rfl, ?_⟩) ?_ ?_
        rotate_left
        · intro w'
          go_simp
          with_reducible rfl
        rotate_left
        · simp only [Act.put, List.setIfInBounds_toArray, List.set_cons_zero, List.set_cons_succ]
          rfl
        refine one_ (i := 10) (N := (some 52)) #[true, true, true, true, true, true, true, true, true, true, true, false, false, false, false] rfl rfl (by kernel_rfl) (by decide) (fun K hK => ?_)
        refine value_ (w1 := ?_) (v := ?_) (by rfl) rfl ?_ ?_
        rotate_left 2
        · go_simp
          constructor
          · rfl
          · rfl
        refine hK.out _ _ (⟨HC0.out, HC1.out⟩) (fun hHeld => ?_)
        clear hK K
        refine norm_ (a' := ?_) ?_ ?_
        rotate_left
        · show Act.put _ (some 52) _ = _
          simp only [Act.put, List.setIfInBounds_toArray, List.set_cons_zero, List.set_cons_succ]
          rfl
        refine last_ (i := 11) (N := (some 53)) #[true, true, true, true, true, true, true, true, true, true, true, true, false, false, false] rfl rfl (by kernel_rfl) (by decide) (fun K hK => ?_)
        refine step_app_at rfl (.tmp 46) (.tmp 52) 29 5 rfl base Try.underlying29 infoByteB (.slice A' n' c') l' rfl (HOA.out _) (some ⟨wr.heap.size, 0, none⟩) 1 1 [UInt8.ofNat b] rfl rfl HSRC.out hll hbase ?_
        intro A2 c2 n2 l2 w2 k1 k2 k3 k4 k5
        refine hK.out _ _ ?_
        clear hK K
        refine norm_ (a' := ?_) ?_ ?_
        rotate_left
        · show Act.put _ (some 53) _ = _
          simp only [Act.put, List.setIfInBounds_toArray, List.set_cons_zero, List.set_cons_succ]
          rfl
        refine pure_ (i := 12) (N := (some 54)) (v := ?_) (a' := ?_) #[true, true, true, true, true, true, true, true, true, true, true, true, true, false, false] rfl rfl (by kernel_rfl) (fun _ _ _ h => h) (Or.inl ⟨by rfl, ?_⟩) ?_ ?_
        rotate_left
        · intro w'
          go_simp
          with_reducible rfl
        rotate_left
        · simp only [Act.put, List.setIfInBounds_toArray, List.set_cons_zero, List.set_cons_succ]
          rfl
        refine pure_ (i := 13) (N := (some 55)) (v := ?_) (a' := ?_) #[true, true, true, true, true, true, true, true, true, true, true, true, true, true, false] rfl rfl (by kernel_rfl) (fun _ _ _ h => h) (Or.inl ⟨by rfl, ?_⟩) ?_ ?_
        rotate_left
        · intro w'
          go_simp
          with_reducible rfl
        rotate_left
        · simp only [Act.put, List.setIfInBounds_toArray, List.set_cons_zero, List.set_cons_succ]
          rfl
        refine last_ (i := 14) (N := none) #[true, true, true, true, true, true, true, true, true, true, true, true, true, true, true] rfl rfl (by kernel_rfl) (by decide) (fun K hK => ?_)
        have h0w : w2.cell? ⟨g, 0, none⟩ = some (.slice A' n' c') := HCW.out w2 k4.out
        have hfw : w2.frozen? ⟨g, 0, none⟩ = false := HFW.out w2 k4.out
        refine skip_ (w1 := ?_) (by rfl) rfl ?_ ?_
        rotate_left
        · go_simp
          rfl
        refine hK.out _ _ ?_
        clear hK K
        refine done_ (by kernel_rfl) ?_
        obtain ⟨KR, KS⟩ := HAPP.out k2.out k3.out k4.out k5.out
        have KR := Aside.mk KR
        have KS := Aside.mk KS
        clear HSRC HOA hbase HC0 HC1 HGW HCW HFW HON HAPP h0w hfw k2 k3 k4 k5 h0 h1 h2
        generalize w2.setCell ⟨g, 0, none⟩ (.slice A2 n2 c2) = w3 at KR KS ⊢
        have h13 : w3.cell? ⟨g, 1, none⟩ = some (.int .i64 (wait' : Int)) := by obtain ⟨A3, n3, c3, hg3, _⟩ := KR.out; exact cell_row hg3 rfl
        have h23 : w3.cell? ⟨g, 2, none⟩ = some (.int .i64 (many' : Int)) := by obtain ⟨A3, n3, c3, hg3, _⟩ := KR.out; exact cell_row hg3 rfl
        have hf13 : w3.frozen? ⟨g, 1, none⟩ = false := by obtain ⟨A3, n3, c3, hg3, _⟩ := KR.out; exact frozen_of_row _ _ _ _ _ hg3
        have hf23 : w3.frozen? ⟨g, 2, none⟩ = false := by obtain ⟨A3, n3, c3, hg3, _⟩ := KR.out; exact frozen_of_row _ _ _ _ _ hg3
        go_wp2_with fail
        go_roundg gk
        case measure => exact Nat.lt_succ_self gk
        case rel =>
          refine ⟨_, l2, wait' / 256, many' - 8, ⟨(KR.out.setWait _ (wait' / 256) (by omega)).setMany _ (many' - 8) (by omega)⟩, ⟨PB.wait_lt _ _ HW.out hge⟩, by omega, by omega, ⟨?_⟩, ⟨?_⟩, ⟨?_⟩⟩
          · rw [← HN.out, k1.out]; exact PB.flush _ _ _ HB.out
          · have := HL.out; have e : l2.length = l'.length + 1 := by rw [k1.out]; simp
            omega
          · refine HS.out.trans ?_
            rw [hr0.out]
            exact ⟨(KS.out.1.setCell (p := ⟨g, 1, none⟩) (.inl (.inl rfl)) _).setCell (p := ⟨g, 2, none⟩) (.inl (.inl rfl)) _, KS.out.2⟩
    · have hgeb : decide (8 ≤ (many' : Int)) = false := decide_eq_false (by omega)
      clear hg ho hr hn' hbg
      go_wp2_with fail
      go_end0
      exact ⟨rfl, r', l', wait', many', HR.out, by omega, HW.out, HN.out, HL.out, HS.out⟩

end Go.Proofs.Ytdiapljnhlonlaa
