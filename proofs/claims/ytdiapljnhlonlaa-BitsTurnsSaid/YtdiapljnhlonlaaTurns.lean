/- ref01's bit and Turn, and the walk of the law BitsTurns. -/
import Derived.Test.YtdiapljnhlonlaaAliveB
namespace Go.Proofs.Ytdiapljnhlonlaa
open Go.RowKit Go.Proofs.YtdiapljnhlonlaaW.PrintWords Go.Proofs.YtdiapljnhlonlaaW.PrintLast Go.Proofs.YtdiapljnhlonlaaW.PrintMore
set_option linter.unusedVariables false
set_option linter.unusedSimpArgs false

set_option maxHeartbeats 400000 in
set_option maxRecDepth 100000 in
theorem ref01_bit (v : Int) (k : Nat) (hk : k ≤ 24) (w : World) :
    Calls Try.prog 51 #[.int .i64 v, .int .i64 (k : Int)] w fun e w' => e = .returned (.int .i64 (PB.bit v k : Int)) ∧ w = w' := by
  have hand : bits .and .i64 (v / 2 ^ k) 1 = (PB.bit v k : Int) := by
    rw [i64_and_one, PB.bit_eq, Int.natCast_pow]; rfl
  generalize PB.bit v k = B at *
  go_enter Try.func51, Try.ntmps51
  go_wp2_with fail
  go_ret
  exact ⟨rfl, rfl⟩

set_option maxHeartbeats 1000000 in
set_option maxRecDepth 100000 in
theorem ref01_Turn (v : Int) (n : Nat) (hn : n ≤ 24) (w : World) :
    Calls Try.prog 27 #[.int .i64 v, .int .i64 (n : Int)] w fun e w' => e = .returned (.int .i64 (PB.rturn v n : Int)) ∧ w = w' := by
  have hnb : decide ((n : Int) ≤ 24) = true := decide_eq_true (by omega)
  have hnb' : decide (n ≤ 24) = true := decide_eq_true (by omega)
  go_enter Try.func27, Try.ntmps27
  go_wp2_with fail
  go_loopw [5, 6] (fun v5 v6 wr => ∃ k T : Nat, k ≤ n ∧ v6 = .int .i64 k ∧ v5 = .int .i64 (T : Int) ∧ T = PB.rturn v k ∧ w = wr) (fun _ v6 _ => n - (intOf v6).toNat)
  case atStart => exact ⟨0, 0, by omega, rfl, rfl, rfl, rfl⟩
  case round =>
    obtain ⟨k, T, hk, rfl, rfl, hT, rfl⟩ := hrel
    have hTl : T < 2 ^ k := by rw [hT]; exact PB.rturn_lt v k
    have h24 : T < 16777216 := Nat.lt_of_lt_of_le hTl (Nat.le_trans (Nat.pow_le_pow_right (by decide) (show k ≤ 24 by omega)) (by decide))
    have HT := Aside.mk hT
    clear hT hTl
    by_cases hlt : k < n
    · have hltb : decide ((k : Int) < (n : Int)) = true := decide_eq_true (by omega)
      have hltb' : decide (k < n) = true := decide_eq_true hlt
      have hb1 := PB.bit_le v k
      obtain ⟨B, hB⟩ : ∃ B, PB.bit v k = B := ⟨_, rfl⟩
      have HB := Aside.mk hB
      rw [hB] at hb1
      clear hB
      go_wp2_with (go_at_call 51; refine (ref01_bit v k (by omega) _).mono ?_; rintro e w' ⟨rfl, rfl⟩; rw [HB.out])
      go_roundw
      case rel => exact ⟨k + 1, 2 * T + B, by omega, by go_num, by go_num, by rw [HT.out, ← HB.out]; rfl, by trivial⟩
      case measure => simp [intOf]; omega
    · obtain rfl : k = n := by omega
      have hltb : decide ((k : Int) < (k : Int)) = false := decide_eq_false (by omega)
      have hltb' : decide (k < k) = false := decide_eq_false (by omega)
      go_wp2_with fail
      go_ret
      exact ⟨by rw [HT.out]; rfl, rfl⟩

theorem turns_end (v : Int) (n : Nat) (hn : n ≤ 24) (M : Int) (hM : M = v % ((2 ^ n : Nat) : Int)) : (M == bits .and .i64 v (wrap64 (wrap64 ((2 : Int) ^ n) - 1))) = true := by
  rw [mask_form' _ _ (by omega), hM]; simp

set_option maxHeartbeats 1000000 in
set_option maxRecDepth 100000 in
theorem bitsTurns_walk (w : World) (v : Int) (hv1 : -9223372036854775808 ≤ v) (hv2 : v ≤ 9223372036854775807) (nn : Int) (hn1 : -9223372036854775808 ≤ nn) (hn2 : nn ≤ 9223372036854775807) :
    Calls Try.prog 10 #[.int .i64 v, .int .i64 nn] w fun e w' => e = .returned (.bool true) ∧ Below w.heap.size w w' := by
  by_cases hr : nn < 0 ∨ 24 < nn
  · have hT : turnG v nn = 0 := if_pos hr
    by_cases h0 : nn < 0
    · have hb : decide (nn < 0) = true := decide_eq_true h0
      clear hr
      go_enter Try.func10, Try.ntmps10
      go_wp2_with (first | (go_at_call 25; refine (bits_Turn v nn w).mono ?_; rintro e w2 ⟨rfl, hb2⟩; rw [hT]; have HB2 := Aside.mk hb2) | (go_at_call 26; refine (law01_alive w2).mono ?_; rintro e w3 ⟨rfl, hb3⟩; have HB3 := Aside.mk hb3))
      go_ret
      exact ⟨rfl, HB2.out.trans (HB3.out.mono HB2.out.size)⟩
    · have hb : decide (nn < 0) = false := decide_eq_false h0
      have hb1 : decide (24 < nn) = true := decide_eq_true (by omega)
      clear hr
      go_enter Try.func10, Try.ntmps10
      go_wp2_with (first | (go_at_call 25; refine (bits_Turn v nn w).mono ?_; rintro e w2 ⟨rfl, hb2⟩; rw [hT]; have HB2 := Aside.mk hb2) | (go_at_call 26; refine (law01_alive w2).mono ?_; rintro e w3 ⟨rfl, hb3⟩; have HB3 := Aside.mk hb3))
      go_ret
      exact ⟨rfl, HB2.out.trans (HB3.out.mono HB2.out.size)⟩
  · obtain ⟨n, rfl⟩ := Int.eq_ofNat_of_zero_le (show 0 ≤ nn by omega)
    have hn : n ≤ 24 := by omega
    have hnn : ¬ ((n : Int) < 0 ∨ 24 < (n : Int)) := hr
    have hb : decide ((n : Int) < 0) = false := decide_eq_false (by omega)
    have hb1 : decide (24 < (n : Int)) = false := decide_eq_false (by omega)
    have e1 : turnG v (n : Int) = (PB.rturn v n : Int) := by unfold turnG; rw [if_neg hnn, Int.toNat_natCast]
    obtain ⟨T, hT⟩ : ∃ T : Int, (PB.rturn v n : Int) = T := ⟨_, rfl⟩
    have e2 : turnG T (n : Int) = v % ((2 ^ n : Nat) : Int) := by unfold turnG; rw [if_neg hnn, Int.toNat_natCast, ← hT]; exact PB.rturn_twice v n
    obtain ⟨M, hM⟩ : ∃ M : Int, turnG T (n : Int) = M := ⟨_, rfl⟩
    have hRT := fun (W : World) => ref01_Turn v n hn W
    rw [hT] at hRT e1
    have hBT := fun (W : World) => bits_Turn T (n : Int) W
    rw [hM] at hBT e2
    have HE := Aside.mk (turns_end v n hn M e2)
    clear hT hM e2 hnn hr
    have hb1' : decide (24 < n) = false := decide_eq_false (by omega)
    go_enter Try.func10, Try.ntmps10
    go_wp2_with (go_at_call 25; refine (bits_Turn v n w).mono ?_; rintro e w2 ⟨rfl, hb2⟩; rw [e1]; have HB2 := Aside.mk hb2)
    refine start_ (n := 20) (S := fun w' => True) (ds := []) #[false, false, false, false, false, false, false, false, false, false, false, false, false, false, false, false, false, false, false, false] (by kernel_rfl) rfl rfl (trivial) (fun hHeld => ?_)
    refine one_ (i := 0) (N := (some 20)) #[true, false, false, false, false, false, false, false, false, false, false, false, false, false, false, false, false, false, false, false] rfl rfl (by kernel_rfl) (by decide) (fun K hK => ?_)
    refine goes_ Try.func26 (by kernel_rfl) rfl #[] (by rfl) rfl rfl (by simp only [List.map_toArray, List.map_cons, List.map_nil]) ?_
    with_reducible refine (law01_alive w2.drew).mono ?_
    rintro e w3 ⟨rfl, hb3⟩
    have HB3 := Aside.mk hb3
    refine ⟨_, rfl, ?_⟩
    refine hK.out _ _ (trivial) (fun hHeld => ?_)
    clear hK K
    refine norm_ (a' := ?_) ?_ ?_
    rotate_left
    · show Act.put _ (some 20) _ = _
      simp only [Act.put, List.setIfInBounds_toArray, List.set_cons_zero, List.set_cons_succ]
      rfl
    refine pure_ (i := 1) (N := (some 21)) (v := ?_) (a' := ?_) #[true, true, false, false, false, false, false, false, false, false, false, false, false, false, false, false, false, false, false, false] rfl rfl (by kernel_rfl) (fun _ _ _ h => h) (Or.inl ⟨by rfl, ?_⟩) ?_ ?_
    rotate_left
    · intro w'
      go_simp
      with_reducible rfl
    rotate_left
    · simp only [Act.put, List.setIfInBounds_toArray, List.set_cons_zero, List.set_cons_succ]
      rfl
    refine pure_ (i := 2) (N := (some 22)) (v := ?_) (a' := ?_) #[true, true, true, false, false, false, false, false, false, false, false, false, false, false, false, false, false, false, false, false] rfl rfl (by kernel_rfl) (fun _ _ _ h => h) (Or.inl ⟨by rfl, ?_⟩) ?_ ?_
    rotate_left
    · intro w'
      go_simp
      with_reducible rfl
    rotate_left
    · simp only [Act.put, List.setIfInBounds_toArray, List.set_cons_zero, List.set_cons_succ]
      rfl
    refine pure_ (i := 3) (N := (some 23)) (v := ?_) (a' := ?_) #[true, true, true, true, false, false, false, false, false, false, false, false, false, false, false, false, false, false, false, false] rfl rfl (by kernel_rfl) (fun _ _ _ h => h) (Or.inl ⟨by rfl, ?_⟩) ?_ ?_
    rotate_left
    · intro w'
      go_simp
      with_reducible rfl
    rotate_left
    · simp only [Act.put, List.setIfInBounds_toArray, List.set_cons_zero, List.set_cons_succ]
      rfl
    refine pure_ (i := 4) (N := (some 24)) (v := ?_) (a' := ?_) #[true, true, true, true, true, false, false, false, false, false, false, false, false, false, false, false, false, false, false, false] rfl rfl (by kernel_rfl) (fun _ _ _ h => h) (Or.inl ⟨by rfl, ?_⟩) ?_ ?_
    rotate_left
    · intro w'
      go_simp
      with_reducible rfl
    rotate_left
    · simp only [Act.put, List.setIfInBounds_toArray, List.set_cons_zero, List.set_cons_succ]
      rfl
    refine one_ (i := 5) (N := (some 25)) #[true, true, true, true, true, true, false, false, false, false, false, false, false, false, false, false, false, false, false, false] rfl rfl (by kernel_rfl) (by decide) (fun K hK => ?_)
    refine goes_ Try.func27 (by kernel_rfl) rfl #[.int .i64 v, .int .i64 (n : Int)] (by rfl) rfl rfl (by simp only [List.map_toArray, List.map_cons, List.map_nil]; rfl) ?_
    with_reducible refine (hRT w3).mono ?_
    rintro e w' ⟨rfl, rfl⟩
    refine ⟨_, rfl, ?_⟩
    refine hK.out _ _ (trivial) (fun hHeld => ?_)
    clear hK K
    refine norm_ (a' := ?_) ?_ ?_
    rotate_left
    · show Act.put _ (some 25) _ = _
      simp only [Act.put, List.setIfInBounds_toArray, List.set_cons_zero, List.set_cons_succ]
      rfl
    refine pure_ (i := 6) (N := (some 26)) (v := ?_) (a' := ?_) #[true, true, true, true, true, true, true, false, false, false, false, false, false, false, false, false, false, false, false, false] rfl rfl (by kernel_rfl) (fun _ _ _ h => h) (Or.inl ⟨by rfl, ?_⟩) ?_ ?_
    rotate_left
    · intro w'
      go_simp
      with_reducible rfl
    rotate_left
    · simp only [Act.put, List.setIfInBounds_toArray, List.set_cons_zero, List.set_cons_succ]
      rfl
    refine pure_ (i := 7) (N := (some 27)) (v := ?_) (a' := ?_) #[true, true, true, true, true, true, true, true, false, false, false, false, false, false, false, false, false, false, false, false] rfl rfl (by kernel_rfl) (fun _ _ _ h => h) (Or.inl ⟨by rfl, ?_⟩) ?_ ?_
    rotate_left
    · intro w'
      go_simp
      with_reducible rfl
    rotate_left
    · simp only [Act.put, List.setIfInBounds_toArray, List.set_cons_zero, List.set_cons_succ]
      rfl
    refine pure_ (i := 8) (N := (some 28)) (v := ?_) (a' := ?_) #[true, true, true, true, true, true, true, true, true, false, false, false, false, false, false, false, false, false, false, false] rfl rfl (by kernel_rfl) (fun _ _ _ h => h) (Or.inl ⟨by rfl, ?_⟩) ?_ ?_
    rotate_left
    · intro w'
      go_simp
      with_reducible rfl
    rotate_left
    · simp only [Act.put, List.setIfInBounds_toArray, List.set_cons_zero, List.set_cons_succ]
      rfl
    refine pure_ (i := 9) (N := (some 29)) (v := ?_) (a' := ?_) #[true, true, true, true, true, true, true, true, true, true, false, false, false, false, false, false, false, false, false, false] rfl rfl (by kernel_rfl) (fun _ _ _ h => h) (Or.inl ⟨by rfl, ?_⟩) ?_ ?_
    rotate_left
    · intro w'
      go_simp
      with_reducible rfl
    rotate_left
    · simp only [Act.put, List.setIfInBounds_toArray, List.set_cons_zero, List.set_cons_succ]
      rfl
    refine pure_ (i := 10) (N := (some 30)) (v := ?_) (a' := ?_) #[true, true, true, true, true, true, true, true, true, true, true, false, false, false, false, false, false, false, false, false] rfl rfl (by kernel_rfl) (fun _ _ _ h => h) (Or.inl ⟨by rfl, ?_⟩) ?_ ?_
    rotate_left
    · intro w'
      go_simp
      with_reducible rfl
    rotate_left
    · simp only [Act.put, List.setIfInBounds_toArray, List.set_cons_zero, List.set_cons_succ]
      rfl
    refine pure_ (i := 12) (N := (some 32)) (v := ?_) (a' := ?_) #[true, true, true, true, true, true, true, true, true, true, true, false, true, false, false, false, false, false, false, false] rfl rfl (by kernel_rfl) (fun _ _ _ h => h) (Or.inl ⟨by rfl, ?_⟩) ?_ ?_
    rotate_left
    · intro w'
      go_simp
      with_reducible rfl
    rotate_left
    · simp only [Act.put, List.setIfInBounds_toArray, List.set_cons_zero, List.set_cons_succ]
      rfl
    refine pure_ (i := 13) (N := (some 33)) (v := ?_) (a' := ?_) #[true, true, true, true, true, true, true, true, true, true, true, false, true, true, false, false, false, false, false, false] rfl rfl (by kernel_rfl) (fun _ _ _ h => h) (Or.inl ⟨by rfl, ?_⟩) ?_ ?_
    rotate_left
    · intro w'
      go_simp
      with_reducible rfl
    rotate_left
    · simp only [Act.put, List.setIfInBounds_toArray, List.set_cons_zero, List.set_cons_succ]
      rfl
    refine pure_ (i := 14) (N := (some 34)) (v := ?_) (a' := ?_) #[true, true, true, true, true, true, true, true, true, true, true, false, true, true, true, false, false, false, false, false] rfl rfl (by kernel_rfl) (fun _ _ _ h => h) (Or.inl ⟨by rfl, ?_⟩) ?_ ?_
    rotate_left
    · intro w'
      go_simp
      with_reducible rfl
    rotate_left
    · simp only [Act.put, List.setIfInBounds_toArray, List.set_cons_zero, List.set_cons_succ]
      rfl
    refine pure_ (i := 15) (N := (some 35)) (v := ?_) (a' := ?_) #[true, true, true, true, true, true, true, true, true, true, true, false, true, true, true, true, false, false, false, false] rfl rfl (by kernel_rfl) (fun _ _ _ h => h) (Or.inl ⟨by rfl, ?_⟩) ?_ ?_
    rotate_left
    · intro w'
      go_simp
      with_reducible rfl
    rotate_left
    · simp only [Act.put, List.setIfInBounds_toArray, List.set_cons_zero, List.set_cons_succ]
      rfl
    refine pure_ (i := 16) (N := (some 36)) (v := ?_) (a' := ?_) #[true, true, true, true, true, true, true, true, true, true, true, false, true, true, true, true, true, false, false, false] rfl rfl (by kernel_rfl) (fun _ _ _ h => h) (Or.inl ⟨by rfl, ?_⟩) ?_ ?_
    rotate_left
    · intro w'
      go_simp
      with_reducible rfl
    rotate_left
    · simp only [Act.put, List.setIfInBounds_toArray, List.set_cons_zero, List.set_cons_succ]
      rfl
    refine one_ (i := 11) (N := (some 31)) #[true, true, true, true, true, true, true, true, true, true, true, true, true, true, true, true, true, false, false, false] rfl rfl (by kernel_rfl) (by decide) (fun K hK => ?_)
    refine goes_ Try.func25 (by kernel_rfl) rfl #[.int .i64 T, .int .i64 (n : Int)] (by rfl) rfl rfl (by simp only [List.map_toArray, List.map_cons, List.map_nil]; rfl) ?_
    with_reducible refine (hBT w3).mono ?_
    rintro e w4 ⟨rfl, hb4⟩
    have HB4 := Aside.mk hb4
    refine ⟨_, rfl, ?_⟩
    refine hK.out _ _ (trivial) (fun hHeld => ?_)
    clear hK K
    refine norm_ (a' := ?_) ?_ ?_
    rotate_left
    · show Act.put _ (some 31) _ = _
      simp only [Act.put, List.setIfInBounds_toArray, List.set_cons_zero, List.set_cons_succ]
      rfl
    refine pure_ (i := 17) (N := (some 37)) (v := ?_) (a' := ?_) #[true, true, true, true, true, true, true, true, true, true, true, true, true, true, true, true, true, true, false, false] rfl rfl (by kernel_rfl) (fun _ _ _ h => h) (Or.inl ⟨by rfl, ?_⟩) ?_ ?_
    rotate_left
    · intro w'
      go_simp
      with_reducible rfl
    rotate_left
    · simp only [Act.put, List.setIfInBounds_toArray, List.set_cons_zero, List.set_cons_succ]
      rfl
    refine pure_ (i := 18) (N := (some 38)) (v := ?_) (a' := ?_) #[true, true, true, true, true, true, true, true, true, true, true, true, true, true, true, true, true, true, true, false] rfl rfl (by kernel_rfl) (fun _ _ _ h => h) (Or.inl ⟨by rfl, ?_⟩) ?_ ?_
    rotate_left
    · intro w'
      go_simp
      with_reducible rfl
    rotate_left
    · simp only [Act.put, List.setIfInBounds_toArray, List.set_cons_zero, List.set_cons_succ]
      rfl
    refine pure_ (i := 19) (N := (some 4)) (v := ?_) (a' := ?_) #[true, true, true, true, true, true, true, true, true, true, true, true, true, true, true, true, true, true, true, true] rfl rfl (by kernel_rfl) (fun _ _ _ h => h) (Or.inl ⟨by rfl, ?_⟩) ?_ ?_
    rotate_left
    · intro w'
      go_simp
      with_reducible rfl
    rotate_left
    · simp only [Act.put, List.setIfInBounds_toArray, List.set_cons_zero, List.set_cons_succ]
      rfl
    refine done_ (by kernel_rfl) ?_
    go_wp2_with fail
    go_ret
    refine ⟨?_, HB2.out.trans (((Below.refl w2.heap.size w2).drew.trans (HB3.out.trans (HB4.out.mono HB3.out.size))).mono HB2.out.size)⟩
    simp only [i64_w, HE.out]
    try rfl

end Go.Proofs.Ytdiapljnhlonlaa
