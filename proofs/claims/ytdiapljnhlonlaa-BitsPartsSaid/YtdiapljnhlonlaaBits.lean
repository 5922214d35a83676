/- The contracts of package bits. -/
import Derived.Test.YtdiapljnhlonlaaOwn
import Derived.Test.YtdiapljnhlonlaaI64
import Derived.Test.YtdiapljnhlonlaaPBits
import Derived.StillTailTactics
namespace Go.Proofs.Ytdiapljnhlonlaa
open Go.RowKit Go.Proofs.YtdiapljnhlonlaaW.PrintWords Go.Proofs.YtdiapljnhlonlaaW.PrintLast Go.Proofs.YtdiapljnhlonlaaW.PrintMore
set_option linter.unusedVariables false
set_option linter.unusedSimpArgs false

set_option maxHeartbeats 400000 in
set_option maxRecDepth 100000 in
theorem bits_Turn_do (bt bv bn k n : Nat) (v : Int) (T : Nat) (hk : k < n) (hn : n ≤ 24) (w : World) (hT : T = PB.rturn v k * 2 ^ (n - k))
    (ht : w.cell? ⟨bt, 0, none⟩ = some (.int .i64 (T : Int))) (hf : w.frozen? ⟨bt, 0, none⟩ = false) (hv : w.cell? ⟨bv, 0, none⟩ = some (.int .i64 v)) (hnc : w.cell? ⟨bn, 0, none⟩ = some (.int .i64 (n : Int))) :
    Calls Try.prog 48 #[.int .i64 (k : Int), .pointer (some ⟨bt, 0, none⟩), .pointer (some ⟨bv, 0, none⟩), .pointer (some ⟨bn, 0, none⟩)] w fun e w' =>
      e = .returned (.tuple #[]) ∧ (w.setCell ⟨bt, 0, none⟩ (.int .i64 ((PB.rturn v (k + 1) * 2 ^ (n - (k + 1)) : Nat) : Int))).drew = w' := by
  have hlay := PB.lay v n k hk
  rw [← hT] at hlay
  have HL := Aside.mk hlay
  have hb := PB.bit_le v k
  have hbe := PB.bit_eq v k
  obtain ⟨m, hm⟩ : ∃ m, n - 1 - k = m := ⟨_, rfl⟩
  have hand : bits .and .i64 (v / 2 ^ k) 1 = (PB.bit v k : Int) := by
    rw [i64_and_one, hbe, Int.natCast_pow]; rfl
  have hTl : T < 2 ^ 24 := by
    have h1 := PB.rturn_lt v k
    have h2 : T < 2 ^ k * 2 ^ (n - k) := by rw [hT]; exact Nat.mul_lt_mul_of_pos_right h1 (Nat.two_pow_pos _)
    rw [← Nat.pow_add] at h2
    have h3 : 2 ^ (k + (n - k)) ≤ 2 ^ 24 := Nat.pow_le_pow_right (by decide) (by omega)
    omega
  rw [hm] at HL
  obtain ⟨S, hS⟩ : ∃ S, PB.bit v k * 2 ^ m = S := ⟨_, rfl⟩
  have hSl : S ≤ 2 ^ 24 := by
    have h3 : 2 ^ m ≤ 2 ^ 24 := Nat.pow_le_pow_right (by decide) (by omega)
    have h4 : PB.bit v k * 2 ^ m ≤ 1 * 2 ^ m := Nat.mul_le_mul_right _ hb
    omega
  rw [hS] at HL
  have hor := i64_or_nat T S (by omega) (by omega)
  generalize PB.rturn v (k + 1) * 2 ^ (n - (k + 1)) = R at *
  generalize PB.bit v k = B at *
  have hw : IntKind.i64.wrap (IntKind.i64.wrap ((n : Int) - 1) - (k : Int)) = (m : Int) := by
    rw [IntWalk.i64_in ((n : Int) - 1) (by omega), IntWalk.i64_in _ (by omega)]; omega
  have HSH := Aside.mk (wrap_shl B m S (by omega) hS (by omega))
  clear hT hbe hlay hS hm
  go_enter Try.func48, Try.ntmps48
  go_wp2_with fail
  go_still_tail 11, (by kernel_rfl)
  change wpList _ _ _ _ _ w.drew
  go_wp2_with fail
  go_end0
  exact ⟨rfl, by rw [HSH.out, hor, HL.out]⟩

theorem one_other {w : World} {b b' : Nat} {v u : Value} {t : TypeId} (h : w.heap[b]? = some (.cells #[v] t (0, 0))) (hne : b ≠ b') : (w.setCell ⟨b', 0, none⟩ u).heap[b]? = some (.cells #[v] t (0, 0)) :=
  (heap_setCell_other _ _ _ _ hne).trans h

set_option maxHeartbeats 400000 in
set_option maxRecDepth 100000 in
theorem bits_Turn_each (bt bv bn n : Nat) (v : Int) (hn : n ≤ 24) (w : World) (hne1 : bv ≠ bt) (hne2 : bn ≠ bt) (B : Nat) (hB : B ≤ bt)
    (ht : w.heap[bt]? = some (.cells #[.int .i64 0] 3)) (hv : w.heap[bv]? = some (.cells #[.int .i64 v] 3)) (hnc : w.heap[bn]? = some (.cells #[.int .i64 (n : Int)] 3)) :
    Calls Try.prog 47 #[.func (.func 48) #[] #[.pointer (some ⟨bt, 0, none⟩), .pointer (some ⟨bv, 0, none⟩), .pointer (some ⟨bn, 0, none⟩)], .pointer (some ⟨bn, 0, none⟩)] w fun e w' =>
      e = .returned (.tuple #[]) ∧ w'.heap[bt]? = some (.cells #[.int .i64 (PB.rturn v n : Int)] 3) ∧ Below B w w' := by
  have hc := cell_of_one hnc
  have HT := Aside.mk ht; have HV := Aside.mk hv; have HN := Aside.mk hnc
  clear ht hv hnc
  go_enter Try.func47, Try.ntmps47
  go_wp2_with fail
  go_loopw [5] (fun v5 wr => ∃ k : Nat, k ≤ n ∧ v5 = .int .i64 k ∧ wr.heap[bt]? = some (.cells #[.int .i64 ((PB.rturn v k * 2 ^ (n - k) : Nat) : Int)] 3) ∧ wr.heap[bv]? = some (.cells #[.int .i64 v] 3) ∧ wr.heap[bn]? = some (.cells #[.int .i64 (n : Int)] 3) ∧ Below B w wr) (fun v5 _ => n - (intOf v5).toNat)
  case atStart => exact ⟨0, by omega, rfl, by simp [PB.rturn]; exact HT.out, HV.out, HN.out, Below.refl _ _⟩
  case round =>
    clear hc
    obtain ⟨k, hk, rfl, h1, h2, h3, hbl⟩ := hrel
    have H1 := Aside.mk h1; have H2 := Aside.mk h2; have H3 := Aside.mk h3; have HBL := Aside.mk hbl
    clear h1 h2 h3 hbl
    by_cases hlt : k < n
    · have hltb : decide ((k : Int) < (n : Int)) = true := decide_eq_true (by omega)
      go_wp2_with (go_at_call 48; refine (bits_Turn_do bt bv bn k n v _ hlt hn _ rfl (cell_of_one H1.out) (free_of_one H1.out) (cell_of_one H2.out) (cell_of_one H3.out)).mono ?_; rintro e w' ⟨rfl, rfl⟩)
      go_roundw
      case rel => exact ⟨k + 1, by omega, by go_num, one_setCell H1.out, one_other H2.out hne1, one_other H3.out hne2, (HBL.out.setCell (by exact hB) _).drew⟩
      case measure => simp [intOf]; omega
    · obtain rfl : k = n := by omega
      have hltb : decide ((k : Int) < (k : Int)) = false := decide_eq_false (by omega)
      go_wp2_with fail
      go_end0
      refine ⟨rfl, ?_, HBL.out⟩
      have := H1.out
      simpa using this

/-- What Turn tells. -/
def turnG (v n : Int) : Int := if n < 0 ∨ 24 < n then 0 else (PB.rturn v n.toNat : Int)

set_option maxHeartbeats 400000 in
set_option maxRecDepth 100000 in
theorem bits_Turn (v n : Int) (w : World) :
    Calls Try.prog 25 #[.int .i64 v, .int .i64 n] w fun e w' => e = .returned (.int .i64 (turnG v n)) ∧ Below w.heap.size w w' := by
  by_cases h : n < 0 ∨ 24 < n
  · have hT : turnG v n = 0 := if_pos h
    rw [hT]
    rcases h with h | h
    · have hb : decide (n < 0) = true := decide_eq_true h
      clear hT
      go_enter Try.func25, Try.ntmps25
      go_wp2_with fail
      go_ret
      exact ⟨rfl, ((Below.refl _ w).alloc (Nat.le_refl _) _).alloc (by simp) _⟩
    · have hb : decide (n < 0) = false := decide_eq_false (by omega)
      have hb2 : decide (24 < n) = true := decide_eq_true h
      clear hT
      go_enter Try.func25, Try.ntmps25
      go_wp2_with fail
      go_ret
      exact ⟨rfl, ((Below.refl _ w).alloc (Nat.le_refl _) _).alloc (by simp) _⟩
  · obtain ⟨N, rfl⟩ := Int.eq_ofNat_of_zero_le (show 0 ≤ n from by omega)
    have hT : turnG v (N : Int) = (PB.rturn v N : Int) := if_neg h
    have HT := Aside.mk hT
    have hb : decide ((N : Int) < 0) = false := decide_eq_false (by omega)
    have hb2 : decide (24 < (N : Int)) = false := decide_eq_false (by omega)
    clear hT
    go_enter Try.func25, Try.ntmps25
    go_wp2_with fail
    refine (bits_Turn_each (w.heap.size + 1 + 1) w.heap.size (w.heap.size + 1) N v (by omega) _ (by omega) (by omega) w.heap.size (by omega) ?_ ?_ ?_).mono ?_
    · exact heap_alloc_last' _ _ _ (by simp)
    · exact (Below.heap_alloc _ _ _ (by simp; omega)).trans ((Below.heap_alloc _ _ _ (by simp)).trans (heap_alloc_new _ _))
    · exact (Below.heap_alloc _ _ _ (by simp)).trans (heap_alloc_last' _ _ _ (by simp))
    · rintro e w1 ⟨rfl, h1, hbl⟩
      have hc := cell_of_one h1
      have HB := Aside.mk (((((Below.refl _ w).alloc (Nat.le_refl _) _).alloc (by simp) _).alloc (by simp; omega) _).trans hbl)
      clear h1 hbl
      go_wp2_with fail
      go_ret
      exact ⟨by rw [HT.out]; rfl, HB.out⟩

end Go.Proofs.Ytdiapljnhlonlaa
