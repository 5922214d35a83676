/- The walks of the finder's methods. -/
import Derived.Test.YtohkjiellcikhaaFinder
namespace Go.Proofs.Ytohkjiellcikhaa.P07
open Go.RowKit Go.Proofs.YtohkjiellcikhaaW.PrintWords Go.Proofs.YtohkjiellcikhaaW.PrintLast Go.Proofs.YtohkjiellcikhaaW.PrintMore Go.Proofs.Ytohkjiellcikhaa MF
set_option linter.unusedVariables false
set_option linter.unusedSimpArgs false

def DataAt (w : World) (A : Option Addr) (l : List Int) : Prop := ∀ i, i < l.length → ∃ ad, A = some ad ∧ w.cell? (ad.add i) = some (.int .u8 (byt l i : Int))
theorem DataAt.of {w : World} {A : Option Addr} {l : List Int} (h : Kd.C (Kd.int .u8) w A l.length l) (hB : AllB l) : DataAt w A l := fun i hi => by
  obtain ⟨ad, e, hc⟩ := Kd.at_int h (i : Int) (by omega) (by omega)
  refine ⟨ad, e, ?_⟩
  rw [Int.toNat_natCast] at hc
  rw [hc]
  have := byt_eq hB i hi
  unfold rd
  rw [Int.toNat_natCast, this]
theorem DataAt.drewN {w : World} {A : Option Addr} {l : List Int} (h : DataAt w A l) (n : Nat) : DataAt (w.drewN n) A l := h

theorem comm_yes (l : List Int) (a b n : Nat) (h : b + n < l.length ∧ n < 258 ∧ byt l (a + n) = byt l (b + n)) : comm l a b (258 - n) n = comm l a b (258 - (n + 1)) (n + 1) := by
  obtain ⟨f, hf⟩ : ∃ f, 258 - n = f + 1 := ⟨257 - n, by omega⟩
  rw [hf, show 258 - (n + 1) = f by omega]
  rw [comm, if_pos h]
theorem comm_no (l : List Int) (a b n : Nat) (h : ¬ (b + n < l.length ∧ n < 258 ∧ byt l (a + n) = byt l (b + n))) : comm l a b (258 - n) n = n := by
  cases hf : 258 - n with
  | zero => rfl
  | succ f => rw [comm, if_neg h]

set_option maxHeartbeats 1000000 in
set_option maxRecDepth 100000 in
theorem finder_common (w0 w : World) (g ga : Nat) (A : Option Addr) (c cap : Nat) (l : List Int) (T : Nat) (s : St) (hF : IsFinder w0 w g ga A c cap l T s) (hd : DataAt w A l) (hB : AllB l) (hl : l.length ≤ 140737488355328) (a b : Nat) (hab : a < b) (hb : b ≤ l.length) :
    Calls Try.prog 27 #[.pointer (some ⟨g, 0, none⟩), .int .i64 (a : Int), .int .i64 (b : Int)] w fun e w' => e = .returned (.int .i64 (common l a b : Int)) ∧ ∃ m, w' = w.drewN m := by
  have HD := Aside.mk hd; clear hd
  have HF := Aside.mk hF
  obtain ⟨h0, _, _⟩ := hF.cells
  clear hF
  have HC := Aside.mk (show comm l a b (258 - 0) 0 = common l a b from rfl)
  go_enter Try.func27, Try.ntmps27
  go_wp2_with fail
  go_loopw [7] (fun v7 wr => ∃ n m : Nat, v7 = .int .i64 n ∧ n ≤ 258 ∧ b + n ≤ l.length ∧ Aside (comm l a b (258 - n) n = common l a b) ∧ wr = w.drewN m) (fun v7 _ => 258 - (intOf v7).toNat)
  case atStart => exact ⟨0, 0, rfl, by omega, by omega, HC, rfl⟩
  case round =>
    clear HC
    obtain ⟨n, m, rfl, hn, hbn, HC, rfl⟩ := hrel
    have h0' : (w.drewN m).cell? ⟨g, 0, none⟩ = some (.slice A l.length c) := h0
    obtain ⟨p, hp⟩ : ∃ p, a + n = p := ⟨_, rfl⟩
    obtain ⟨q, hq⟩ : ∃ q, b + n = q := ⟨_, rfl⟩
    have hw1 : IntKind.i64.wrap ((b : Int) + (n : Int)) = (q : Int) := by rw [IntWalk.i64_in _ (by omega)]; omega
    have hw2 : IntKind.i64.wrap ((a : Int) + (n : Int)) = (p : Int) := by rw [IntWalk.i64_in _ (by omega)]; omega
    have HY := Aside.mk (comm_yes l a b n)
    have HN := Aside.mk (comm_no l a b n)
    rw [hp, hq] at HY HN
    by_cases c1 : q < l.length
    · have t1 : decide ((q : Int) < (l.length : Int)) = true := decide_eq_true (by omega)
      have t1' : decide (q < l.length) = true := decide_eq_true c1
      by_cases c2 : n < 258
      · have t2 : decide ((n : Int) < 258) = true := decide_eq_true (by omega)
        have t2' : decide (n < 258) = true := decide_eq_true c2
        obtain ⟨ad, rfl, hx⟩ := HD.out p (by omega)
        obtain ⟨ad', e, hy⟩ := HD.out q c1
        obtain rfl : ad = ad' := by injection e
        have hpl : p < l.length := by omega
        by_cases c3 : byt l p = byt l q
        · have t3 : ((byt l p : Int) == (byt l q : Int)) = true := by simp [c3]
          have HY' := Aside.mk (HY.out ⟨c1, c2, c3⟩)
          have HBN := Aside.mk (show b + (n + 1) ≤ l.length by omega)
          clear hp hq e c3
          generalize byt l p = x at *
          generalize byt l q = y at *
          clear HY HN
          go_wp2_with fail
          go_quiet (fail)
          go_wp2_with fail
          go_roundw
          case rel => exact ⟨n + 1, _, by go_num, by omega, HBN.out, ⟨HY'.out ▸ HC.out⟩, rfl⟩
          case measure => simp [intOf]; omega
        · have t3 : ((byt l p : Int) == (byt l q : Int)) = false := by rw [beq_eq_false_iff_ne]; omega
          have HN' := Aside.mk (HN.out (fun h => c3 h.2.2))
          clear hp hq e c3
          generalize byt l p = x at *
          generalize byt l q = y at *
          clear HY HN
          go_wp2_with fail
          go_quiet (fail)
          go_wp2_with fail
          go_ret
          exact ⟨by rw [← HC.out, HN'.out]; rfl, _, World.drewN_drewN ..⟩
      · have t2 : decide ((n : Int) < 258) = false := decide_eq_false (by omega)
        have t2' : decide (n < 258) = false := decide_eq_false c2
        have HN' := Aside.mk (HN.out (fun h => c2 h.2.1))
        clear HY HN hp hq
        go_wp2_with fail
        go_quiet (fail)
        go_wp2_with fail
        go_ret
        exact ⟨by rw [← HC.out, HN'.out]; rfl, _, World.drewN_drewN ..⟩
    · have t1 : decide ((q : Int) < (l.length : Int)) = false := decide_eq_false (by omega)
      have t1' : decide (q < l.length) = false := decide_eq_false c1
      have HN' := Aside.mk (HN.out (fun h => c1 h.1))
      clear HY HN hp hq
      go_wp2_with fail
      go_quiet (fail)
      go_wp2_with fail
      go_ret
      exact ⟨by rw [← HC.out, HN'.out]; rfl, _, World.drewN_drewN ..⟩

end Go.Proofs.Ytohkjiellcikhaa.P07
