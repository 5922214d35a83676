/- alive() of law 01. -/
import Derived.Test.YtdiapljnhlonlaaAlive
import Derived.Test.YtdiapljnhlonlaaBits
namespace Go.Proofs.Ytdiapljnhlonlaa
open Go.RowKit Go.Proofs.YtdiapljnhlonlaaW.PrintWords Go.Proofs.YtdiapljnhlonlaaW.PrintLast Go.Proofs.YtdiapljnhlonlaaW.PrintMore
set_option linter.unusedVariables false
set_option linter.unusedSimpArgs false

theorem IsWriter.only {w w' : World} {base g : Nat} {r : Option Nat} {N len : Nat} {S : Nat → Prop} (h : IsWriter w base g r N len) (ho : Only w w' S) (hS : ∀ k, S k → k < base) : IsWriter w' base g r N len :=
  h.kept (fun k hk hr => ho.block k hk (fun hs => by
    have h1 := hS k hs
    obtain ⟨h2, h3, h4⟩ := h.lt
    rcases hr with rfl | hr
    · omega
    · have := h4 k hr.symm; omega))
theorem WStep.ge {w w' : World} {g : Nat} {r r' : Option Nat} (h : WStep w w' g r r') (b : Nat) (hb : b ≤ w.heap.size) (hr : ∀ k, r = some k → b ≤ k) : ∀ k, r' = some k → b ≤ k := by
  intro k hk
  rcases h.2 with e | ⟨b', e, hb'⟩
  · exact hr k (e ▸ hk)
  · rw [e] at hk; injection hk with hk; omega
theorem alive_bits' (w : World) (B g p n : Nat) (x n' : Int) (h : IsReader w B g [5, 129] p) (hn : n ≤ 24) (hl : n ≤ 16 - p) (hx : ((PB.tk (PB.num [5, 129]) p n : Nat) : Int) = x) (hn' : n' = (n : Int)) (q : Nat) (hq : q = p + n) :
    Calls Try.prog 29 #[.pointer (some ⟨g, 0, none⟩), .int .i64 n'] w fun e w' => e = .returned (.tuple #[.int .i64 x, .bool true]) ∧ Aside (IsReader w' B g [5, 129] q) ∧ Aside (Only w w' (fun k => k = g)) := by
  subst hn' hq
  exact alive_bits w B g p n x h hn hl hx
theorem alive_lay' (w : World) (base g : Nat) (r : Option Nat) (N len : Nat) (h : IsWriter w base g r N len) (v n' : Int) (n : Nat) (hn' : n' = (n : Int)) (hn : n ≤ 24) (hl : len ≤ 100) (N' len' : Nat) (hN : N' = N + (v % ((2 ^ n : Nat) : Int)).toNat * 2 ^ len) (hlen : len' = len + n) :
    Calls Try.prog 50 #[.pointer (some ⟨g, 0, none⟩), .int .i64 v, .int .i64 n'] w fun e w' => ∃ r', e = .returned (.tuple #[]) ∧ Aside (IsWriter w' base g r' N' len') ∧ Aside (WStep w w' g r r') := by
  subst hn'
  exact alive_lay w base g r N len h v n hn hl N' len' hN hlen
theorem alive_left (w : World) (B g : Nat) (h : IsReader w B g [5, 129] 9) :
    Calls Try.prog 30 #[.pointer (some ⟨g, 0, none⟩)] w fun e w' => e = .returned (.int .i64 7) ∧ ∃ m, w' = w.drewN m := bits_Left w B g [5, 129] 9 h
theorem alive_data (w : World) (base g : Nat) (r : Option Nat) (h : IsWriter w base g r 13 4) :
    Calls Try.prog 41 #[.pointer (some ⟨g, 0, none⟩)] w fun e w' => ∃ A' c', e = .returned (.slice A' 1 c') ∧ Aside ((convert 29 9 (.slice A' 1 c')).run Try.prog w' = .ok (.string { data := #[13] }) w') ∧ Aside (Below w.heap.size w w') := by
  have hr := h.few (by omega)
  refine (bits_Data w base g r [] 13 4 hr (by omega) (by omega) (by simp)).mono ?_
  rintro e w' ⟨A', c', l', rfl, h1, h2, h3⟩
  have e1 : l' = [13] := h1.out
  subst e1
  exact ⟨A', c', rfl, ⟨conv_str w' A' [13] 1 c' h2.out.bytes rfl⟩, h3⟩
theorem alive_turn (w : World) : Calls Try.prog 25 #[.int .i64 1, .int .i64 4] w fun e w' => e = .returned (.int .i64 8) ∧ Aside (Below w.heap.size w w') := by
  refine (bits_Turn 1 4 w).mono ?_
  rintro e w' ⟨rfl, h⟩
  exact ⟨by rw [show turnG 1 4 = 8 by decide], ⟨h⟩⟩

theorem alive_ne {gR gW w1 : Nat} {r : Option Nat} {w5 : Nat} (h : gR < w1) (h2 : w1 ≤ gW) (e : gR = gW ∨ some gR = r) (hr : ∀ k, r = some k → w1 ≤ k ∧ k < w5) : False := by
  rcases e with e | e
  · omega
  · have := hr gR e.symm; omega
theorem alive_up {gR gW w1 w0 k : Nat} {r : Option Nat} {w5 : Nat} (h : gR < w1) (h1 : w0 < gR) (h2 : w1 ≤ gW) (e : k = gW ∨ some k = r) (hr : ∀ k, r = some k → w1 ≤ k ∧ k < w5) : w0 + 1 ≤ k := by
  rcases e with e | e
  · omega
  · have := hr k e.symm; omega
theorem alive_n1 : ((PB.tk (PB.num [5, 129]) 0 3 : Nat) : Int) = 5 := by decide
theorem alive_n2 : ((PB.tk (PB.num [5, 129]) 3 6 : Nat) : Int) = 32 := by decide
theorem alive_n3 : 5 = 0 + ((5 : Int) % ((2 ^ 3 : Nat) : Int)).toNat * 2 ^ 0 := by decide
theorem alive_n4 : 13 = 5 + ((1 : Int) % ((2 ^ 1 : Nat) : Int)).toNat * 2 ^ 3 := by decide
theorem alive_b1 (w : World) (B g : Nat) (h : IsReader w B g [5, 129] 0) :
    Calls Try.prog 29 #[.pointer (some ⟨g, 0, none⟩), .int .i64 3] w fun e w' => e = .returned (.tuple #[.int .i64 5, .bool true]) ∧ Aside (IsReader w' B g [5, 129] 3) ∧ Aside (Only w w' (fun k => k = g)) := alive_bits' w B g 0 3 5 3 h (by omega) (by omega) alive_n1 rfl 3 rfl
theorem alive_b2 (w : World) (B g : Nat) (h : IsReader w B g [5, 129] 3) :
    Calls Try.prog 29 #[.pointer (some ⟨g, 0, none⟩), .int .i64 6] w fun e w' => e = .returned (.tuple #[.int .i64 32, .bool true]) ∧ Aside (IsReader w' B g [5, 129] 9) ∧ Aside (Only w w' (fun k => k = g)) := alive_bits' w B g 3 6 32 6 h (by omega) (by omega) alive_n2 rfl 9 rfl
theorem alive_l1 (w : World) (base g : Nat) (r : Option Nat) (h : IsWriter w base g r 0 0) :
    Calls Try.prog 50 #[.pointer (some ⟨g, 0, none⟩), .int .i64 5, .int .i64 3] w fun e w' => ∃ r', e = .returned (.tuple #[]) ∧ Aside (IsWriter w' base g r' 5 3) ∧ Aside (WStep w w' g r r') := alive_lay' w base g r 0 0 h 5 3 3 rfl (by omega) (by omega) 5 3 alive_n3 rfl
theorem alive_l2 (w : World) (base g : Nat) (r : Option Nat) (h : IsWriter w base g r 5 3) :
    Calls Try.prog 50 #[.pointer (some ⟨g, 0, none⟩), .int .i64 1, .int .i64 1] w fun e w' => ∃ r', e = .returned (.tuple #[]) ∧ Aside (IsWriter w' base g r' 13 4) ∧ Aside (WStep w w' g r r') := alive_lay' w base g r 5 3 h 1 1 1 rfl (by omega) (by omega) 13 4 alive_n4 rfl

set_option maxHeartbeats 1000000 in
set_option maxRecDepth 100000 in
theorem law01_alive (w : World) : Calls Try.prog 26 #[] w fun e w' => e = .returned (.bool true) ∧ Below w.heap.size w w' := by
  go_enter Try.func26, Try.ntmps26
  go_wp2_with (first
    | (go_at_call 28; refine (alive_new w).mono ?_; rintro e w1 ⟨gR, rfl, HR1, HB1, HG1⟩)
    | (go_at_call 49; refine (bits_NewWriter w1).mono ?_; rintro e w2 ⟨gW, rfl, HW2, hb2, hg2⟩; have HB2 := Aside.mk hb2; have HW2 := Aside.mk HW2; have HG2 := Aside.mk hg2; have HR2 := Aside.mk (HR1.out.below hb2))
    | (go_at_call 29; with_reducible refine (alive_b1 w2 _ gR HR2.out).mono ?_; rintro e w3 ⟨rfl, HR3, HO3⟩)
    | (go_at_call 29; with_reducible refine (alive_b2 w3 _ gR HR3.out).mono ?_; rintro e w4 ⟨rfl, HR4, HO4⟩; have HW4 := Aside.mk ((HW2.out.only HO3.out (fun k e => by have := HR1.out.lt; omega)).only HO4.out (fun k e => by have := HR1.out.lt; omega)))
    | (go_at_call 50; with_reducible refine (alive_l1 w4 _ gW none HW4.out).mono ?_; rintro e w5 ⟨r5, rfl, HW5, HS5⟩)
    | (go_at_call 50; with_reducible refine (alive_l2 w5 _ gW r5 HW5.out).mono ?_; rintro e w6 ⟨r6, rfl, HW6, HS6⟩)
    | (go_at_call 30; refine (alive_left w6 _ gR (((HR4.out.only HS5.out.1 (fun e => alive_ne HR1.out.lt HG2.out e (w5 := 0) (fun k hk => by cases hk)) (fun k hk => alive_up HR1.out.lt HG1.out HG2.out hk (w5 := 0) (fun k hk => by cases hk))).only HS6.out.1 (fun e => alive_ne HR1.out.lt HG2.out e HW5.out.lt.2.2) (fun k hk => alive_up HR1.out.lt HG1.out HG2.out hk HW5.out.lt.2.2)))).mono ?_; rintro e w' ⟨rfl, m, rfl⟩)
    | (go_at_call 41; refine (alive_data _ _ gW r6 (HW6.out.kept (w' := w6.drewN m) (fun k hk hr => rfl))).mono ?_; rintro e w7 ⟨A', c', rfl, hcv, HB7⟩; have hcv := hcv.out)
    | (go_at_call 25; refine (alive_turn w7).mono ?_; rintro e w8 ⟨rfl, HB8⟩))
  go_ret
  refine ⟨rfl, ?_⟩
  have hr := HR1.out.lt
  have hg1 := HG1.out
  have hg2 := HG2.out
  have h12 := HB1.out.size
  have h23 := HB2.out.size
  have h34 := HO3.out.size
  have h45 := HO4.out.size
  have h56 := HS5.out.1.size
  have hr5 : ∀ k, r5 = some k → w1.heap.size ≤ k := fun k hk => (HW5.out.lt.2.2 k hk).1
  have h67 := HS6.out.1.size
  have h78 : w6.heap.size ≤ w7.heap.size := HB7.out.size
  have b6 := (((((HB1.out.trans (HB2.out.mono h12)).trans (HO3.out.below w.heap.size (by omega) (fun i e => by omega))).trans (HO4.out.below w.heap.size (by omega) (fun i e => by omega))).trans (HS5.out.1.below w.heap.size (by omega) (fun i e => by rcases e with e | e; omega; cases e))).trans (HS6.out.1.below w.heap.size (by omega) (fun i e => by rcases e with e | e; omega; have := hr5 i e.symm; omega)))
  have b7 : Below w.heap.size w6 w7 := Below.trans (b := w6.drewN m) (pw_below_drewN (Below.refl _ _) m) (HB7.out.mono (show w.heap.size ≤ w6.heap.size by omega))
  exact (b6.trans b7).trans (HB8.out.mono (by omega))

end Go.Proofs.Ytdiapljnhlonlaa
