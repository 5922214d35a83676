/- The contracts of bits.Reader. -/
import Derived.Test.YtdiapljnhlonlaaBits
import Derived.Test.YtdiapljnhlonlaaPNum
import Derived.Test.YtdiapljnhlonlaaOnly
import Derived.WalkSpells
namespace Go.Proofs.Ytdiapljnhlonlaa
open Go.RowKit Go.Proofs.YtdiapljnhlonlaaW.PrintWords Go.Proofs.YtdiapljnhlonlaaW.PrintLast Go.Proofs.YtdiapljnhlonlaaW.PrintMore
set_option linter.unusedVariables false
set_option linter.unusedSimpArgs false

/-- A store into a block that holds no bytes turns no text. -/
theorem Bytes.far {w : World} {A : Option Addr} {l : List UInt8} (h : Bytes w A l) {g j : Nat} {cs : Array Value} {t : TypeId} {fr : Nat × Nat} (hg : w.heap[g]? = some (.cells cs t fr))
    (hcs : ∀ (i : Nat) (x : Int), cs[i]? ≠ some (.int .u8 x)) (u : Value) : Bytes (w.setCell ⟨g, j, none⟩ u) A l := by
  cases A with
  | none => have := h.none_nil; subst this; exact Bytes.nil _ _
  | some ad =>
    refine Bytes.mk h.len (fun k hk => ?_)
    obtain ⟨ad', e, hc⟩ := h.at k hk
    cases e
    have hne : (⟨g, j, none⟩ : Addr) ≠ ad.add k := by
      intro e
      rw [← e, cell_of_row w g j cs t fr hg] at hc
      exact hcs j _ hc
    rw [World.cell?_setCell_other _ _ _ _ hne]
    exact hc

/-- The block of a Reader that stands at bit p of a text. -/
def IsReader (w : World) (B g : Nat) (l : List UInt8) (p : Nat) : Prop :=
  ∃ A c, w.heap[g]? = some (.cells #[.slice A l.length c, .int .i64 (p : Int)] 79) ∧ Bytes w A l ∧ l.length ≤ c ∧ p ≤ 8 * l.length ∧ l.length ≤ 140737488355328 ∧ (A = none → c = 0) ∧ (∀ ad, A = some ad → 0 < l.length → ad.block < B)

theorem readerCells (A : Option Addr) (n c : Nat) (p : Int) : ∀ (i : Nat) (x : Int), #[Value.slice A n c, .int .i64 p][i]? ≠ some (.int .u8 x) := by
  intro i x
  match i with
  | 0 => simp
  | 1 => simp
  | i + 2 => simp

theorem bits_NewReader (w : World) (A : Option Addr) (c : Nat) (l : List UInt8) (hl : Bytes w A l) (hc : l.length ≤ c) (hs : l.length ≤ 140737488355328) (hn : A = none → c = 0) :
    Calls Try.prog 28 #[.slice A l.length c] w fun e w' => ∃ g, e = .returned (.pointer (some ⟨g, 0, none⟩)) ∧ IsReader w' w.heap.size g l 0 ∧ Below w.heap.size w w' ∧ w.heap.size ≤ g := by
  have HBK := Aside.mk (show ∀ ad, A = some ad → 0 < l.length → ad.block < w.heap.size by
    intro ad e hp
    obtain ⟨ad', e', hc'⟩ := hl.at 0 hp
    rw [e] at e'; injection e' with e'; subst e'
    have := World.block_lt_of_cell? w _ hc'
    have he : (ad.add 0).block = ad.block := by unfold Addr.add; split <;> rfl
    omega)
  have HL := Aside.mk hl; clear hl
  go_enter Try.func28, Try.ntmps28
  go_wp2_with fail
  go_ret
  have hb := (Below.refl _ w).alloc (Nat.le_refl _) (Obj.cells #[.slice A l.length c, .int .i64 0] 79)
  exact ⟨w.heap.size, rfl, ⟨A, c, heap_alloc_new _ _, HL.out.below hb, hc, by omega, hs, hn, HBK.out⟩, hb, Nat.le_refl _⟩

theorem IsReader.drewN {w : World} {B g : Nat} {l : List UInt8} {p : Nat} (h : IsReader w B g l p) (n : Nat) : IsReader (w.drewN n) B g l p := by
  obtain ⟨A, c, hg, hl, r⟩ := h
  exact ⟨A, c, hg, hl.below (pw_below_drewN (Below.refl _ _) n), r⟩
theorem IsReader.lt {w : World} {B g : Nat} {l : List UInt8} {p : Nat} (h : IsReader w B g l p) : g < w.heap.size := by
  obtain ⟨A, c, hg, _⟩ := h
  exact (Array.getElem?_eq_some_iff.1 hg).1
theorem IsReader.below {w w' : World} {B g : Nat} {l : List UInt8} {p : Nat} (h : IsReader w B g l p) (hb : Below w.heap.size w w') : IsReader w' B g l p := by
  have hlt := h.lt
  obtain ⟨A, c, hg, hl, r⟩ := h
  exact ⟨A, c, (hb.block g hlt).trans hg, hl.below hb, r⟩
theorem IsReader.only {w w' : World} {B g : Nat} {l : List UInt8} {p : Nat} {S : Nat → Prop} (h : IsReader w B g l p) (ho : Only w w' S) (hg : ¬ S g) (hS : ∀ k, S k → B ≤ k) : IsReader w' B g l p := by
  have hlt := h.lt
  obtain ⟨A, c, hh, hl, hc, hp, hs, hn, hb⟩ := h
  refine ⟨A, c, (ho.block g hlt hg).trans hh, ?_, hc, hp, hs, hn, hb⟩
  by_cases h0 : 0 < l.length
  · exact ho.bytes hl (fun ad e hs' => by have := hS _ hs'; have := hb ad e h0; omega)
  · obtain rfl : l = [] := List.eq_nil_of_length_eq_zero (by omega)
    exact Bytes.nil _ _
theorem reader_val (N p k q t x s : Nat) (hpart : x / 2 ^ s % 2 ^ t = PB.tk N q t) (hor : PB.tk N p k ||| PB.tk N q t * 2 ^ k = PB.tk N p (k + t)) (h : k + t ≤ 24) :
    bits .or .i64 (PB.tk N p k : Int) (wrap64 (bits .and .i64 ((x : Int) / 2 ^ s) (wrap64 (wrap64 ((2 : Int) ^ t) - 1)) * 2 ^ k)) = ((PB.tk N p (k + t) : Nat) : Int) := by
  have h1 := PB.tk_small N q t k h
  have h2 := PB.tk_small' N p k (by omega)
  rw [mask_form' _ _ (by omega), nat_div_pow, ← Int.natCast_emod, hpart, wrap_shl' _ _ _ rfl (by omega), i64_or_nat _ _ (by omega) (by omega), hor]
/-- The reader is set at another bit. -/
theorem IsReader.move {w : World} {B g : Nat} {l : List UInt8} {p : Nat} (h : IsReader w B g l p) (q : Nat) (hq : q ≤ 8 * l.length) (x : Int) (hx : x = (q : Int)) : IsReader (w.setCell ⟨g, 1, none⟩ (.int .i64 x)) B g l q := by
  subst hx
  obtain ⟨A, c, hg, hl, hc, hp, hs, hnil⟩ := h
  refine ⟨A, c, ?_, hl.far hg (readerCells A l.length c p) _, hc, hq, hs, hnil⟩
  rw [heap_setCell_same _ _ _ _ _ _ hg]
  rfl

set_option maxHeartbeats 400000 in
set_option maxRecDepth 100000 in
theorem bits_Left (w : World) (B g : Nat) (l : List UInt8) (p : Nat) (h : IsReader w B g l p) :
    Calls Try.prog 30 #[.pointer (some ⟨g, 0, none⟩)] w fun e w' => e = .returned (.int .i64 ((8 * l.length - p : Nat) : Int)) ∧ ∃ m, w' = w.drewN m := by
  obtain ⟨A, c, hg, hl, hc, hp, hs, hnil⟩ := h
  have h0 := cell_row (j := 0) hg (v := .slice A l.length c) rfl
  have h1 := cell_row (j := 1) hg (v := .int .i64 (p : Int)) rfl
  have HE := Aside.mk (show ((8 * l.length - p : Nat) : Int) = 8 * (l.length : Int) - (p : Int) from by omega)
  clear hg hl
  go_enter Try.func30, Try.ntmps30
  go_wp2_with fail
  go_quiet (fail)
  go_wp2_with fail
  go_ret
  exact ⟨by rw [HE.out]; rfl, nq, rfl⟩

set_option maxHeartbeats 400000 in
set_option maxRecDepth 100000 in
theorem bits_Align (w : World) (B g : Nat) (l : List UInt8) (p : Nat) (h : IsReader w B g l p) :
    Calls Try.prog 34 #[.pointer (some ⟨g, 0, none⟩)] w fun e w' => e = .returned (.tuple #[]) ∧ IsReader w' B g l ((p + 7) / 8 * 8) ∧ Only w w' (fun k => k = g) ∧ w'.heap.size = w.heap.size := by
  have H := Aside.mk h
  obtain ⟨A, c, hg, hl, hc, hp, hs, hnil⟩ := h
  have h1 := cell_row (j := 1) hg (v := .int .i64 (p : Int)) rfl
  have hf := frozen_of_row _ g 1 _ _ hg
  clear hg hl
  go_enter Try.func34, Try.ntmps34
  go_wp2_with fail
  go_end0
  exact ⟨rfl, H.out.move _ (by omega) _ (by omega), (Only.refl w (fun k => k = g)).setCell (p := ⟨g, 1, none⟩) (.inl rfl) _, by simp⟩

set_option maxHeartbeats 400000 in
set_option maxRecDepth 100000 in
theorem bits_Bits_no (w : World) (B g : Nat) (l : List UInt8) (p : Nat) (h : IsReader w B g l p) (n : Int) (hn : n < 0 ∨ 24 < n ∨ ((8 * l.length - p : Nat) : Int) < n) :
    Calls Try.prog 29 #[.pointer (some ⟨g, 0, none⟩), .int .i64 n] w fun e w' => e = .returned (.tuple #[.int .i64 0, .bool false]) ∧ ∃ m, w' = w.drewN m := by
  have H := Aside.mk h; clear h
  by_cases h0 : n < 0
  · have hb : decide (n < 0) = true := decide_eq_true h0
    clear hn
    go_enter Try.func29, Try.ntmps29
    go_wp2_with fail
    go_ret2
    exact ⟨rfl, 0, rfl⟩
  · by_cases h1 : 24 < n
    · have hb : decide (n < 0) = false := decide_eq_false h0
      have hb1 : decide (24 < n) = true := decide_eq_true h1
      clear hn
      go_enter Try.func29, Try.ntmps29
      go_wp2_with fail
      go_ret2
      exact ⟨rfl, 0, rfl⟩
    · have hb : decide (n < 0) = false := decide_eq_false h0
      have hb1 : decide (24 < n) = false := decide_eq_false h1
      have hb2 : decide (((8 * l.length - p : Nat) : Int) < n) = true := decide_eq_true (by omega)
      clear hn
      generalize hL : 8 * l.length - p = L at *
      have HL := Aside.mk hL; clear hL
      go_enter Try.func29, Try.ntmps29
      go_wp2_with (go_at_call 30; refine (bits_Left _ _ g l p H.out).mono ?_; rintro e w' ⟨rfl, m, rfl⟩; rw [HL.out])
      go_ret2
      exact ⟨rfl, m, rfl⟩

set_option maxHeartbeats 1000000 in
set_option maxRecDepth 100000 in
theorem bits_Bits_yes (w : World) (B g : Nat) (l : List UInt8) (p : Nat) (h : IsReader w B g l p) (n : Nat) (hn : n ≤ 24) (hl : n ≤ 8 * l.length - p) :
    Calls Try.prog 29 #[.pointer (some ⟨g, 0, none⟩), .int .i64 (n : Int)] w fun e w' => e = .returned (.tuple #[.int .i64 (PB.tk (PB.num l) p n : Int), .bool true]) ∧ IsReader w' B g l (p + n) ∧ Only w w' (fun k => k = g) ∧ w'.heap.size = w.heap.size := by
  have hpl : p + n ≤ 8 * l.length := by
    obtain ⟨A, c, _, _, _, hp, _, _⟩ := h
    omega
  have hlen : l.length ≤ 140737488355328 := by
    obtain ⟨A, c, _, _, _, _, hs, _⟩ := h
    exact hs
  have H := Aside.mk h; clear h
  have hb : decide ((n : Int) < 0) = false := decide_eq_false (by omega)
  have hb1 : decide (24 < (n : Int)) = false := decide_eq_false (by omega)
  have hb2 : decide (((8 * l.length - p : Nat) : Int) < (n : Int)) = false := decide_eq_false (by omega)
  have hb3 : decide (8 * l.length - p < n) = false := decide_eq_false (by omega)
  generalize hL : 8 * l.length - p = L at *
  have HL := Aside.mk hL; clear hL
  go_enter Try.func29, Try.ntmps29
  go_wp2_with (go_at_call 30; refine (bits_Left _ _ g l p H.out).mono ?_; rintro e w' ⟨rfl, m, rfl⟩; rw [HL.out])
  go_loopw [6, 7] (fun v6 v7 wr => ∃ k : Nat, k ≤ n ∧ v7 = .int .i64 k ∧ v6 = .int .i64 (PB.tk (PB.num l) p k : Nat) ∧ IsReader wr B g l (p + k) ∧ Only w wr (fun k => k = g) ∧ wr.heap.size = w.heap.size) (fun _ v7 _ => n - (intOf v7).toNat)
  case atStart => exact ⟨0, by omega, rfl, by rw [PB.tk_zero]; rfl, H.out.drewN m, (Only.refl _ _).drewN m, rfl⟩
  case round =>
    clear H
    obtain ⟨k, hk, rfl, rfl, h, ho, hsz⟩ := hrel
    have HO := Aside.mk ho; have HSZ := Aside.mk hsz; clear ho hsz
    by_cases hlt : k < n
    · have hltb : decide ((k : Int) < (n : Int)) = true := decide_eq_true (by omega)
      have H := Aside.mk h
      obtain ⟨A, c, hg, hby, hc, hp, hs, hnil⟩ := h
      obtain ⟨q, hq⟩ : ∃ q, p + k = q := ⟨_, rfl⟩
      obtain ⟨i, hi⟩ : ∃ i, q / 8 = i := ⟨_, rfl⟩
      obtain ⟨s, hs8⟩ : ∃ s, q % 8 = s := ⟨_, rfl⟩
      have hil : i < l.length := by omega
      have h0 := cell_row (j := 0) hg (v := .slice A l.length c) rfl
      have h1 := cell_row (j := 1) hg (v := .int .i64 ((p + k : Nat) : Int)) rfl
      have hf := frozen_of_row _ g 1 _ _ hg
      obtain ⟨ad, rfl, hcell⟩ := hby.at i hil
      obtain ⟨t, ht⟩ : ∃ t, min (n - k) (8 - s) = t := ⟨_, rfl⟩
      have hpart : l[i].toNat / 2 ^ s % 2 ^ t = PB.tk (PB.num l) q t := by subst hi hs8; exact PB.tk_byte l q t (by omega) (by omega)
      have hor := PB.tk_or (PB.num l) p k t
      rw [hq] at h1
      have htl := PB.tk_lt (PB.num l) q t
      have hkl := PB.tk_lt (PB.num l) p k
      have hx := PB.byte_lt l[i]
      generalize l[i].toNat = x at *
      obtain ⟨a, ha⟩ : ∃ a, n - k = a := ⟨_, rfl⟩
      obtain ⟨b, hb8⟩ : ∃ b, 8 - s = b := ⟨_, rfl⟩
      have hmin := fun (W : World) ats ty => run_min2_nat (P := Try.prog) W ats ty .i64 a b
      rw [show min a b = t by omega] at hmin
      have hw1 : IntKind.i64.wrap ((q : Int) / 8) = (i : Int) := by rw [IntWalk.i64_in _ (by omega)]; omega
      have hw2 : (q : Int).tmod 8 = (s : Int) := by rw [Int.tmod_eq_emod_of_nonneg (by omega)]; omega
      have hw3 : (n : Int) - (k : Int) = (a : Int) := by omega
      have hw4 : (8 : Int) - (s : Int) = (b : Int) := by omega
      have ht8 : t ≤ 8 := by omega
      have htn : k + t ≤ n := by omega
      have hval := reader_val (PB.num l) p k q t x s hpart (hq ▸ hor) (by omega) 
      have HVAL := Aside.mk hval
      have HQ := Aside.mk (show q + t = p + (k + t) by omega)
      have hqt : q + t ≤ 8 * l.length := by omega
      have ht1 : 0 < t := by omega
      clear hval htl hkl
      have HPT := Aside.mk hpart; have HOR := Aside.mk hor
      clear hg hby hpart hor hi hs8 hq ha hb8 ht
      go_wp2_with fail
      go_quiet (fail)
      go_wp2_with fail
      go_quiet (fail)
      go_wp2_with fail
      go_roundw
      case rel =>
        exact ⟨k + t, htn, by go_num, by rw [HVAL.out], by rw [← HQ.out]; exact (H.out.drewN _).move _ hqt _ (by omega), (HO.out.drewN _).setCell (p := ⟨g, 1, none⟩) (.inl rfl) _, by simpa using HSZ.out⟩
      case measure => simp [intOf]; omega
    · obtain rfl : k = n := by omega
      have hltb : decide ((k : Int) < (k : Int)) = false := decide_eq_false (by omega)
      have H := Aside.mk h; clear h
      go_wp2_with fail
      go_ret2
      exact ⟨rfl, H.out, HO.out, HSZ.out⟩

theorem infoByteB : (Try.prog.info? 5).map (fun i => (i.zero, i.size, i.bytes)) = some (some (.int .u8 0), 1, 1) := by kernel_rfl

set_option maxHeartbeats 400000 in
set_option maxRecDepth 100000 in
theorem slices_Clone (w : World) (A : Option Addr) (c : Nat) (l : List UInt8) (hl : Bytes w A l) (hs : l.length ≤ 140737488355328) (hn : A = none → c = 0) :
    Calls Try.prog 53 #[.slice A l.length c] w fun e w' => ∃ A' c' l', e = .returned (.slice A' l'.length c') ∧ Aside (l' = l) ∧ Aside (OwnBytes w' w.heap.size 5 (.slice A' l'.length c') l') ∧ Aside (Below w.heap.size w w') := by
  have hq := fun W a l c => Lib.run_eql_slice_nil (P := Try.prog) W 29 5 a l c 0 0 Try.underlying29
  cases A with
  | none =>
    have := hl.none_nil
    subst this
    have := hn rfl
    subst this
    go_enter Try.func53, Try.ntmps53
    go_wp2_with fail
    go_ret
    exact ⟨none, 0, [], rfl, ⟨rfl⟩, ⟨OwnBytes.nil _ _ _⟩, ⟨Below.refl _ _⟩⟩
  | some ad =>
    have HO := Aside.mk (OwnBytes.lit w w.heap.size 5 [] w.heap.size rfl (Nat.le_refl _) (by decide))
    have HBE := Aside.mk (show Below w.heap.size w (w.alloc (Obj.cells (byteVals []).toArray 5)) from (Below.refl _ w).alloc (Nat.le_refl _) _)
    have HL := Aside.mk hl; clear hl
    go_enter Try.func53, Try.ntmps53
    go_wp2_with (at_builtin; refine wpList_app_bytes rfl (.tmp 5) (.tmp 6) 29 5 rfl w.heap.size Try.underlying29 infoByteB (.slice (some ⟨w.heap.size, 0, none⟩) 0 0) [] rfl HO.out (some ad) c l rfl (HL.out.below HBE.out) (by simpa using hs) (by simp) ?_; intro A1 c1 l1 w2 HL1 HO1 HC1 HBY1 hg1; have hW1 : Below w.heap.size (w.alloc (Obj.cells (byteVals []).toArray 5)) w2 := (grown_below hg1.out (B := w.heap.size) (by simp) (by intro k hk; cases hk; exact Nat.le_refl _)); have HB2 := Aside.mk (HBE.out.trans hW1))
    go_ret
    exact ⟨A1, c1, l1, rfl, HL1, HO1, HB2⟩

set_option maxHeartbeats 400000 in
set_option maxRecDepth 100000 in
theorem bits_Bytes_no (w : World) (B g : Nat) (l : List UInt8) (p : Nat) (h : IsReader w B g l p) (n : Int) (hn : n < 0 ∨ ((l.length : Int) - (((p + 7) / 8 : Nat) : Int)) < n) :
    Calls Try.prog 36 #[.pointer (some ⟨g, 0, none⟩), .int .i64 n] w fun e w' => e = .returned (.tuple #[.slice none 0 0, .bool false]) ∧ ∃ m, w' = w.drewN m := by
  have H := Aside.mk h
  obtain ⟨A, c, hg, hl, hc, hp, hs, hnil⟩ := h
  have h0 := cell_row (j := 0) hg (v := .slice A l.length c) rfl
  have h1 := cell_row (j := 1) hg (v := .int .i64 (p : Int)) rfl
  clear hg hl
  by_cases hn0 : n < 0
  · have hb : decide (n < 0) = true := decide_eq_true hn0
    clear hn
    go_enter Try.func36, Try.ntmps36
    go_wp2_with fail
    go_ret2
    exact ⟨rfl, 0, rfl⟩
  · have hb : decide (n < 0) = false := decide_eq_false hn0
    obtain ⟨f, hf⟩ : ∃ f, (p + 7) / 8 = f := ⟨_, rfl⟩
    rw [hf] at hn
    have hlt : decide ((l.length : Int) - (f : Int) < n) = true := decide_eq_true (by omega)
    have hw1 : ((p : Int) + 7) / 8 = (f : Int) := by omega
    clear hn hf
    go_enter Try.func36, Try.ntmps36
    go_wp2_with fail
    go_ret2
    exact ⟨rfl, 0, rfl⟩

theorem slices_Clone_n (w : World) (A : Option Addr) (c n : Nat) (l : List UInt8) (hl : Bytes w A l) (hs : l.length ≤ 140737488355328) (hn : A = none → c = 0) (hln : l.length = n) :
    Calls Try.prog 53 #[.slice A n c] w fun e w' => ∃ A' c' l', e = .returned (.slice A' l'.length c') ∧ Aside (l' = l) ∧ Aside (OwnBytes w' w.heap.size 5 (.slice A' l'.length c') l') ∧ Aside (Below w.heap.size w w') := by
  subst hln
  exact slices_Clone w A c l hl hs hn
theorem Bytes.cut {w : World} {A : Option Addr} {l : List UInt8} (h : Bytes w A l) (ad : Addr) (hA : A = some ad) (f n : Nat) (hf : f + n ≤ l.length) : Bytes w (some (ad.add f)) ((l.drop f).take n) := by
  subst hA
  refine Bytes.mk (by have := h.len; simp; omega) (fun k hk => ?_)
  have hk' : f + k < l.length := by simp at hk; omega
  obtain ⟨ad', e, hc⟩ := h.at (f + k) hk'
  cases e
  have e2 : (ad.add f).add k = ad.add (f + k) := by
    unfold Addr.add
    by_cases h1 : f = 0 <;> by_cases h2 : k = 0 <;> simp_all <;> (try omega)
  rw [e2, hc]
  simp

set_option maxHeartbeats 400000 in
set_option maxRecDepth 100000 in
theorem bits_Bytes_yes (w : World) (B g : Nat) (l : List UInt8) (p : Nat) (h : IsReader w B g l p) (n : Nat) (hn : (p + 7) / 8 + n ≤ l.length) :
    Calls Try.prog 36 #[.pointer (some ⟨g, 0, none⟩), .int .i64 (n : Int)] w fun e w' => ∃ A' c' l', e = .returned (.tuple #[.slice A' l'.length c', .bool true]) ∧ Aside (l' = (l.drop ((p + 7) / 8)).take n) ∧ Aside (OwnBytes w' w.heap.size 5 (.slice A' l'.length c') l') ∧ Aside (IsReader w' B g l (8 * ((p + 7) / 8 + n))) ∧ Aside (Only w w' (fun k => k = g)) := by
  have H := Aside.mk h
  obtain ⟨A, c, hg, hl, hc, hp, hs, hnil⟩ := h
  have h0 := cell_row (j := 0) hg (v := .slice A l.length c) rfl
  have h1 := cell_row (j := 1) hg (v := .int .i64 (p : Int)) rfl
  have hfr := frozen_of_row _ g 1 _ _ hg
  have hb : decide ((n : Int) < 0) = false := decide_eq_false (by omega)
  obtain ⟨f, hf⟩ : ∃ f, (p + 7) / 8 = f := ⟨_, rfl⟩
  rw [hf] at hn ⊢
  have hlt : decide ((l.length : Int) - (f : Int) < (n : Int)) = false := decide_eq_false (by omega)
  have hw1 : ((p : Int) + 7) / 8 = (f : Int) := by omega
  have HM := Aside.mk (H.out.move (8 * (f + n)) (by omega) (8 * ((f : Int) + (n : Int))) (by omega))
  have hfl : f ≤ l.length := by omega
  have hfc : f + n ≤ c := by omega
  have hly := hl.far (j := 1) hg (readerCells A l.length c p) (.int .i64 (8 * ((f : Int) + (n : Int))))
  by_cases hcf : c = f
  · obtain rfl : n = 0 := by omega
    subst hcf
    have hrw : List.take 0 (l.drop c) = [] := rfl
    rw [hrw]
    clear hg hl hf hly
    rw [show ((0 : Nat) : Int) = 0 from rfl] at hb hlt HM ⊢
    go_enter Try.func36, Try.ntmps36
    go_wp2_with (go_at_call 53; refine (slices_Clone_n _ _ _ _ [] (Bytes.nil _ _) (by simp) (fun _ => rfl) rfl).mono ?_; rintro e w1 ⟨A1, c1, l1, rfl, HL1, HO1, HB1⟩)
    go_ret2
    refine ⟨A1, c1, l1, rfl, HL1, ⟨by have := HO1.out; simpa using this⟩, ⟨HM.out.below (by have := HB1.out; simpa using this)⟩, ⟨((Only.refl w (fun k => k = g)).setCell (p := ⟨g, 1, none⟩) (.inl rfl) _).trans (Only.of_below HB1.out (fun k => k = g)) (fun _ _ h => h)⟩⟩
  · have hA : ∃ ad, A = some ad := by
      cases A with
      | none => have := hnil.1 rfl; omega
      | some ad => exact ⟨ad, rfl⟩
    obtain ⟨ad, rfl⟩ := hA
    have HC := Aside.mk (hly.cut ad rfl f n hn)
    have hln : ((l.drop f).take n).length = n := by simp; omega
    have HLN := Aside.mk hln
    clear hg hl hf hly hln
    go_enter Try.func36, Try.ntmps36
    go_wp2_with (go_at_call 53; refine (slices_Clone_n _ _ _ _ ((l.drop f).take n) HC.out (by rw [HLN.out]; omega) (fun h => by cases h) HLN.out).mono ?_; rintro e w1 ⟨A1, c1, l1, rfl, HL1, HO1, HB1⟩)
    go_ret2
    refine ⟨A1, c1, l1, rfl, HL1, ⟨by have := HO1.out; simpa using this⟩, ⟨HM.out.below (by have := HB1.out; simpa using this)⟩, ⟨((Only.refl w (fun k => k = g)).setCell (p := ⟨g, 1, none⟩) (.inl rfl) _).trans (Only.of_below HB1.out (fun k => k = g)) (fun _ _ h => h)⟩⟩

end Go.Proofs.Ytdiapljnhlonlaa
