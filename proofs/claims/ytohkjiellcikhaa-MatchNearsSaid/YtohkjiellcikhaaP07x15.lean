-- Printed for this claim by a program over the kit's print; some callees are given by texts of mine. Lean checks it.
import Derived.Test.YtohkjiellcikhaaP07x0
namespace Go.Proofs.Ytohkjiellcikhaa.P07
open Go.RowKit Go.Proofs.YtohkjiellcikhaaW.PrintWords Go.Proofs.YtohkjiellcikhaaW.PrintLast Go.Proofs.YtohkjiellcikhaaW.PrintMore
attribute [local go_sem] max2_int min2_int max_two min_two max_three min_three max_four min_four   -- for this text's walks alone
set_option linter.unusedVariables false
set_option linter.unusedSimpArgs false

/-! ### wainloadref07_Near: function 18 -/
mutual
def wainloadref07_Near.l0 : Nat → List Int → Int → Int → Option (Bool)
  | 0, _, _, _ => none
  | k + 1, x0, x1, x5 => if x5 ≤ 64 then (if x5 ≤ x1 then (wainloadref07_Near.j1 k x0 x1 x5 (decide ((wrap64 (x1 + 3)) ≤ (x0.length : Int)))) else (wainloadref07_Near.j1 k x0 x1 x5 false)) else (wainloadref07_Near.j1 k x0 x1 x5 false)
def wainloadref07_Near.j1 : Nat → List Int → Int → Int → Bool → Option (Bool)
  | 0, _, _, _, _ => none
  | k + 1, x0, x1, x5, x19 => if x19 = true then (if 0 ≤ x1 then (if x1 < (x0.length : Int) then (if 0 ≤ (wrap64 (x1 - x5)) then (if (wrap64 (x1 - x5)) < (x0.length : Int) then (if (rd x0 x1) = (rd x0 (wrap64 (x1 - x5))) then (if 0 ≤ (wrap64 (x1 + 1)) then (if (wrap64 (x1 + 1)) < (x0.length : Int) then (if 0 ≤ (wrap64 ((wrap64 (x1 + 1)) - x5)) then (if (wrap64 ((wrap64 (x1 + 1)) - x5)) < (x0.length : Int) then (if (rd x0 (wrap64 (x1 + 1))) = (rd x0 (wrap64 ((wrap64 (x1 + 1)) - x5))) then (if 0 ≤ (wrap64 (x1 + 2)) then (if (wrap64 (x1 + 2)) < (x0.length : Int) then (if 0 ≤ (wrap64 ((wrap64 (x1 + 2)) - x5)) then (if (wrap64 ((wrap64 (x1 + 2)) - x5)) < (x0.length : Int) then (if (rd x0 (wrap64 (x1 + 2))) = (rd x0 (wrap64 ((wrap64 (x1 + 2)) - x5))) then (some true) else (wainloadref07_Near.l0 k x0 x1 (wrap64 (x5 + 1)))) else (none)) else (none)) else (none)) else (none)) else (wainloadref07_Near.l0 k x0 x1 (wrap64 (x5 + 1)))) else (none)) else (none)) else (none)) else (none)) else (wainloadref07_Near.l0 k x0 x1 (wrap64 (x5 + 1)))) else (none)) else (none)) else (none)) else (none)) else (some false)
end
def wainloadref07_Near.f (k : Nat) (l0 : List Int) (a1 : Int) : Option (Bool) := wainloadref07_Near.l0 k l0 a1 1
theorem wainloadref07_Near.mono_l : ∀ k, (∀ y0 y1 y2, LeO (wainloadref07_Near.l0 k y0 y1 y2) (wainloadref07_Near.l0 (k + 1) y0 y1 y2)) ∧ (∀ y0 y1 y2 y3, LeO (wainloadref07_Near.j1 k y0 y1 y2 y3) (wainloadref07_Near.j1 (k + 1) y0 y1 y2 y3))
  | 0 => ⟨fun _ _ _ r h => by simp [wainloadref07_Near.l0] at h, fun _ _ _ _ r h => by simp [wainloadref07_Near.j1] at h⟩
  | k + 1 => by
    obtain ⟨ih0, ih1⟩ := wainloadref07_Near.mono_l k
    refine ⟨?_, ?_⟩
    · intro y0 y1 y2
      unfold wainloadref07_Near.l0
      repeat' first
      | (with_reducible exact ih0 _ _ _)
      | (with_reducible exact ih1 _ _ _ _)
      | (with_reducible exact LeO.refl _)
      | (with_reducible exact LeO.none _)
      | (with_reducible refine LeO.ite ?_ ?_)
      | (with_reducible refine LeO.bind ?_ (fun _ => ?_))
      | exact ih0 _ _ _
      | exact ih1 _ _ _ _
      | exact LeO.none _
      | refine LeO.ite ?_ ?_
      | refine LeO.bind ?_ (fun _ => ?_)
    · intro y0 y1 y2 y3
      unfold wainloadref07_Near.j1
      repeat' first
      | (with_reducible exact ih0 _ _ _)
      | (with_reducible exact ih1 _ _ _ _)
      | (with_reducible exact LeO.refl _)
      | (with_reducible exact LeO.none _)
      | (with_reducible refine LeO.ite ?_ ?_)
      | (with_reducible refine LeO.bind ?_ (fun _ => ?_))
      | exact ih0 _ _ _
      | exact ih1 _ _ _ _
      | exact LeO.none _
      | refine LeO.ite ?_ ?_
      | refine LeO.bind ?_ (fun _ => ?_)
theorem wainloadref07_Near.mono : ∀ a0 a1 k, LeO (wainloadref07_Near.f k a0 a1) (wainloadref07_Near.f (k + 1) a0 a1) := by
  intro a0 a1 k
  obtain ⟨ih0, ih1⟩ := wainloadref07_Near.mono_l k
  unfold wainloadref07_Near.f
  repeat' first
      | (with_reducible exact ih0 _ _ _)
      | (with_reducible exact ih1 _ _ _ _)
      | (with_reducible exact LeO.refl _)
      | (with_reducible exact LeO.none _)
      | (with_reducible refine LeO.ite ?_ ?_)
      | (with_reducible refine LeO.bind ?_ (fun _ => ?_))
      | exact ih0 _ _ _
      | exact ih1 _ _ _ _
      | exact LeO.none _
      | refine LeO.ite ?_ ?_
      | refine LeO.bind ?_ (fun _ => ?_)
set_option maxHeartbeats 8000000 in
set_option maxRecDepth 100000 in
theorem wainloadref07_Near.calls (k : Nat) (A0 : Option Addr) (c0 : Nat) (l0 : List Int) (a1 : Int) (r : Bool) (w : World) (hr0 : Kd.C (Kd.int .u8) w A0 l0.length l0) (hc0 : l0.length ≤ c0) (h : wainloadref07_Near.f k l0 a1 = some r) :
    Calls Try.prog 18 #[.slice A0 l0.length c0, .int .i64 a1] w fun e w' => e = .returned (.bool r) ∧ Drawn0 w w' := by
  have HR0 := Aside0.mk hr0
  have HC0 := Aside0.mk hc0
  clear hr0 hc0
  have H : (wainloadref07_Near.l0 k l0 a1 1) = some r := h
  clear h
  have H' := Aside0.mk H
  clear H
  go_enter Try.func18, Try.ntmps18
  go_wp2
  repeat (go_quiet (fail); try go_wp2)
  go_loopg [5] k (fun kq v5 w' => ∃ (x5_1 : Int), v5 = .int .i64 x5_1 ∧ Aside0 (wainloadref07_Near.l0 kq l0 a1 x5_1 = some r) ∧ Aside0 (kq ≤ k) ∧ Drawn0 w w')
  case atStart => exact ⟨(1), (by first | rfl | (simp; done) | (simp [*]; done)), H', ⟨Nat.le_refl _⟩, by repeat (first | exact Drawn0.refl _ | apply Drawn0.step)⟩
  case round =>
    clear H'
    try clear c1
    try clear p2
    obtain ⟨x5_1, rfl, HA, HK1, ⟨m1, rfl⟩⟩ := hrel
    cases gk with
    | zero => exact absurd HA.out (by simp [wainloadref07_Near.l0])
    | succ k1 =>
      have H := HA.out
      clear HA
      simp only [wainloadref07_Near.l0] at H
      have HC3 := Aside0.mk H
      clear H
      go_upto_region 2 with (fail)
      repeat (go_quiet (fail); go_upto_region 2 with (fail))
      go_cut [19] (fun v19 wc => ∃ (kq : Nat) (x19_2 : Bool), v19 = .bool x19_2 ∧ Aside0 (wainloadref07_Near.j1 kq l0 a1 x5_1 x19_2 = some r) ∧ Aside0 (kq ≤ k1) ∧ Drawn0 w wc)
      case first =>
        have H := HC3.out
        clear HC3
        by_cases c4 : x5_1 ≤ 64
        · rw [if_pos c4] at H
          have c4b0 : decide (x5_1 ≤ 64) = true := decide_eq_true c4
          clear c4
          (first | rw [c4b0] | (simp only [i64_w, i32_w]; rw [c4b0]) | skip)
          by_cases c5 : x5_1 ≤ a1
          · rw [if_pos c5] at H
            have c5b0 : decide (x5_1 ≤ a1) = true := decide_eq_true c5
            clear c5
            have H' := Aside0.mk H
            clear H
            go_wp2
            repeat (go_quiet (fail); try go_wp2)
            go_meet
            case rel => exact ⟨_, (decide ((wrap64 (a1 + 3)) ≤ (l0.length : Int))), (by first | rfl | (simp; done) | (simp [*]; done)), H', ⟨by have := HK1.out; first | omega | exact Nat.le_refl _⟩, by repeat (first | exact Drawn0.refl _ | apply Drawn0.step)⟩
          · rw [if_neg c5] at H
            have c5b0 : decide (x5_1 ≤ a1) = false := decide_eq_false c5
            clear c5
            have H' := Aside0.mk H
            clear H
            go_wp2
            repeat (go_quiet (fail); try go_wp2)
            go_meet
            case rel => exact ⟨_, (false), (by first | rfl | (simp; done) | (simp [*]; done)), H', ⟨by have := HK1.out; first | omega | exact Nat.le_refl _⟩, by repeat (first | exact Drawn0.refl _ | apply Drawn0.step)⟩
        · rw [if_neg c4] at H
          have c4b0 : decide (x5_1 ≤ 64) = false := decide_eq_false c4
          clear c4
          (first | rw [c4b0] | (simp only [i64_w, i32_w]; rw [c4b0]) | skip)
          have H' := Aside0.mk H
          clear H
          go_wp2
          repeat (go_quiet (fail); try go_wp2)
          go_meet
          case rel => exact ⟨_, (false), (by first | rfl | (simp; done) | (simp [*]; done)), H', ⟨by have := HK1.out; first | omega | exact Nat.le_refl _⟩, by repeat (first | exact Drawn0.refl _ | apply Drawn0.step)⟩
      case rest =>
        clear HC3
        try clear c1
        try clear p2
        try clear c4
        try clear c4b0
        try clear c5
        try clear c5b0
        try clear p2
        obtain ⟨kq, x19_2, rfl, HA, HJ2, ⟨mc2, rfl⟩⟩ := hcut
        cases kq with
        | zero => exact absurd HA.out (by simp [wainloadref07_Near.j1])
        | succ kj2 =>
          have H := HA.out
          clear HA
          simp only [wainloadref07_Near.j1] at H
          by_cases c6 : x19_2 = true
          · subst c6
            have H1 : (if 0 ≤ a1 then (if a1 < (l0.length : Int) then (if 0 ≤ (wrap64 (a1 - x5_1)) then (if (wrap64 (a1 - x5_1)) < (l0.length : Int) then (if (rd l0 a1) = (rd l0 (wrap64 (a1 - x5_1))) then (if 0 ≤ (wrap64 (a1 + 1)) then (if (wrap64 (a1 + 1)) < (l0.length : Int) then (if 0 ≤ (wrap64 ((wrap64 (a1 + 1)) - x5_1)) then (if (wrap64 ((wrap64 (a1 + 1)) - x5_1)) < (l0.length : Int) then (if (rd l0 (wrap64 (a1 + 1))) = (rd l0 (wrap64 ((wrap64 (a1 + 1)) - x5_1))) then (if 0 ≤ (wrap64 (a1 + 2)) then (if (wrap64 (a1 + 2)) < (l0.length : Int) then (if 0 ≤ (wrap64 ((wrap64 (a1 + 2)) - x5_1)) then (if (wrap64 ((wrap64 (a1 + 2)) - x5_1)) < (l0.length : Int) then (if (rd l0 (wrap64 (a1 + 2))) = (rd l0 (wrap64 ((wrap64 (a1 + 2)) - x5_1))) then (some true) else (wainloadref07_Near.l0 kj2 l0 a1 (wrap64 (x5_1 + 1)))) else (none)) else (none)) else (none)) else (none)) else (wainloadref07_Near.l0 kj2 l0 a1 (wrap64 (x5_1 + 1)))) else (none)) else (none)) else (none)) else (none)) else (wainloadref07_Near.l0 kj2 l0 a1 (wrap64 (x5_1 + 1)))) else (none)) else (none)) else (none)) else (none)) = some r := by rw [if_pos rfl] at H; exact H
            clear H
            have H := H1
            clear H1
            by_cases c7 : 0 ≤ a1
            · rw [if_pos c7] at H
              have c7b0 : decide (0 ≤ a1) = true := decide_eq_true c7
              clear c7
              by_cases c8 : a1 < (l0.length : Int)
              · rw [if_pos c8] at H
                have c8b0 : decide (a1 < (l0.length : Int)) = true := decide_eq_true c8
                clear c8
                obtain ⟨ji9, hji9⟩ : ∃ j_ : Int, (wrap64 (a1 - x5_1)) = j_ := ⟨_, rfl⟩
                replace H : (if 0 ≤ (ji9) then (if (ji9) < (l0.length : Int) then (if (rd l0 a1) = (rd l0 (ji9)) then (if 0 ≤ (wrap64 (a1 + 1)) then (if (wrap64 (a1 + 1)) < (l0.length : Int) then (if 0 ≤ (wrap64 ((wrap64 (a1 + 1)) - x5_1)) then (if (wrap64 ((wrap64 (a1 + 1)) - x5_1)) < (l0.length : Int) then (if (rd l0 (wrap64 (a1 + 1))) = (rd l0 (wrap64 ((wrap64 (a1 + 1)) - x5_1))) then (if 0 ≤ (wrap64 (a1 + 2)) then (if (wrap64 (a1 + 2)) < (l0.length : Int) then (if 0 ≤ (wrap64 ((wrap64 (a1 + 2)) - x5_1)) then (if (wrap64 ((wrap64 (a1 + 2)) - x5_1)) < (l0.length : Int) then (if (rd l0 (wrap64 (a1 + 2))) = (rd l0 (wrap64 ((wrap64 (a1 + 2)) - x5_1))) then (some true) else (wainloadref07_Near.l0 kj2 l0 a1 (wrap64 (x5_1 + 1)))) else (none)) else (none)) else (none)) else (none)) else (wainloadref07_Near.l0 kj2 l0 a1 (wrap64 (x5_1 + 1)))) else (none)) else (none)) else (none)) else (none)) else (wainloadref07_Near.l0 kj2 l0 a1 (wrap64 (x5_1 + 1)))) else (none)) else (none)) = some r := by first | (rw [hji9] at H; exact H) | (simp only [hji9] at H ⊢; exact H)
                have hji9w : (IntKind.i64.wrap (a1 - x5_1)) = ji9 := (i64_w _).trans hji9
                by_cases c10 : 0 ≤ (ji9)
                · rw [if_pos c10] at H
                  have c10b0 : decide (0 ≤ (ji9)) = true := decide_eq_true c10
                  clear c10
                  by_cases c11 : (ji9) < (l0.length : Int)
                  · rw [if_pos c11] at H
                    have c11b0 : decide ((ji9) < (l0.length : Int)) = true := decide_eq_true c11
                    clear c11
                    by_cases c12 : (rd l0 a1) = (rd l0 (ji9))
                    · rw [if_pos c12] at H
                      have c12b0 : ((rd l0 a1) == (rd l0 (ji9))) = true := beq_iff_eq.mpr c12
                      have c12b1 : ((rd l0 a1) != (rd l0 (ji9))) = false := bne_eq_false_iff_eq.mpr c12
                      clear c12
                      obtain ⟨ji13, hji13⟩ : ∃ j_ : Int, (wrap64 (a1 + 1)) = j_ := ⟨_, rfl⟩
                      replace H : (if 0 ≤ (ji13) then (if (ji13) < (l0.length : Int) then (if 0 ≤ (wrap64 ((ji13) - x5_1)) then (if (wrap64 ((ji13) - x5_1)) < (l0.length : Int) then (if (rd l0 (ji13)) = (rd l0 (wrap64 ((ji13) - x5_1))) then (if 0 ≤ (wrap64 (a1 + 2)) then (if (wrap64 (a1 + 2)) < (l0.length : Int) then (if 0 ≤ (wrap64 ((wrap64 (a1 + 2)) - x5_1)) then (if (wrap64 ((wrap64 (a1 + 2)) - x5_1)) < (l0.length : Int) then (if (rd l0 (wrap64 (a1 + 2))) = (rd l0 (wrap64 ((wrap64 (a1 + 2)) - x5_1))) then (some true) else (wainloadref07_Near.l0 kj2 l0 a1 (wrap64 (x5_1 + 1)))) else (none)) else (none)) else (none)) else (none)) else (wainloadref07_Near.l0 kj2 l0 a1 (wrap64 (x5_1 + 1)))) else (none)) else (none)) else (none)) else (none)) = some r := by first | (rw [hji13] at H; exact H) | (simp only [hji13] at H ⊢; exact H)
                      have hji13w : (IntKind.i64.wrap (a1 + 1)) = ji13 := (i64_w _).trans hji13
                      by_cases c14 : 0 ≤ (ji13)
                      · rw [if_pos c14] at H
                        have c14b0 : decide (0 ≤ (ji13)) = true := decide_eq_true c14
                        clear c14
                        by_cases c15 : (ji13) < (l0.length : Int)
                        · rw [if_pos c15] at H
                          have c15b0 : decide ((ji13) < (l0.length : Int)) = true := decide_eq_true c15
                          clear c15
                          obtain ⟨ji16, hji16⟩ : ∃ j_ : Int, (wrap64 ((ji13) - x5_1)) = j_ := ⟨_, rfl⟩
                          replace H : (if 0 ≤ (ji16) then (if (ji16) < (l0.length : Int) then (if (rd l0 (ji13)) = (rd l0 (ji16)) then (if 0 ≤ (wrap64 (a1 + 2)) then (if (wrap64 (a1 + 2)) < (l0.length : Int) then (if 0 ≤ (wrap64 ((wrap64 (a1 + 2)) - x5_1)) then (if (wrap64 ((wrap64 (a1 + 2)) - x5_1)) < (l0.length : Int) then (if (rd l0 (wrap64 (a1 + 2))) = (rd l0 (wrap64 ((wrap64 (a1 + 2)) - x5_1))) then (some true) else (wainloadref07_Near.l0 kj2 l0 a1 (wrap64 (x5_1 + 1)))) else (none)) else (none)) else (none)) else (none)) else (wainloadref07_Near.l0 kj2 l0 a1 (wrap64 (x5_1 + 1)))) else (none)) else (none)) = some r := by first | (rw [hji16] at H; exact H) | (simp only [hji16] at H ⊢; exact H)
                          have hji16w : (IntKind.i64.wrap ((ji13) - x5_1)) = ji16 := (i64_w _).trans hji16
                          by_cases c17 : 0 ≤ (ji16)
                          · rw [if_pos c17] at H
                            have c17b0 : decide (0 ≤ (ji16)) = true := decide_eq_true c17
                            clear c17
                            by_cases c18 : (ji16) < (l0.length : Int)
                            · rw [if_pos c18] at H
                              have c18b0 : decide ((ji16) < (l0.length : Int)) = true := decide_eq_true c18
                              clear c18
                              by_cases c19 : (rd l0 (ji13)) = (rd l0 (ji16))
                              · rw [if_pos c19] at H
                                have c19b0 : ((rd l0 (ji13)) == (rd l0 (ji16))) = true := beq_iff_eq.mpr c19
                                have c19b1 : ((rd l0 (ji13)) != (rd l0 (ji16))) = false := bne_eq_false_iff_eq.mpr c19
                                clear c19
                                obtain ⟨ji20, hji20⟩ : ∃ j_ : Int, (wrap64 (a1 + 2)) = j_ := ⟨_, rfl⟩
                                replace H : (if 0 ≤ (ji20) then (if (ji20) < (l0.length : Int) then (if 0 ≤ (wrap64 ((ji20) - x5_1)) then (if (wrap64 ((ji20) - x5_1)) < (l0.length : Int) then (if (rd l0 (ji20)) = (rd l0 (wrap64 ((ji20) - x5_1))) then (some true) else (wainloadref07_Near.l0 kj2 l0 a1 (wrap64 (x5_1 + 1)))) else (none)) else (none)) else (none)) else (none)) = some r := by first | (rw [hji20] at H; exact H) | (simp only [hji20] at H ⊢; exact H)
                                have hji20w : (IntKind.i64.wrap (a1 + 2)) = ji20 := (i64_w _).trans hji20
                                by_cases c21 : 0 ≤ (ji20)
                                · rw [if_pos c21] at H
                                  have c21b0 : decide (0 ≤ (ji20)) = true := decide_eq_true c21
                                  clear c21
                                  by_cases c22 : (ji20) < (l0.length : Int)
                                  · rw [if_pos c22] at H
                                    have c22b0 : decide ((ji20) < (l0.length : Int)) = true := decide_eq_true c22
                                    clear c22
                                    obtain ⟨ji23, hji23⟩ : ∃ j_ : Int, (wrap64 ((ji20) - x5_1)) = j_ := ⟨_, rfl⟩
                                    replace H : (if 0 ≤ (ji23) then (if (ji23) < (l0.length : Int) then (if (rd l0 (ji20)) = (rd l0 (ji23)) then (some true) else (wainloadref07_Near.l0 kj2 l0 a1 (wrap64 (x5_1 + 1)))) else (none)) else (none)) = some r := by first | (rw [hji23] at H; exact H) | (simp only [hji23] at H ⊢; exact H)
                                    have hji23w : (IntKind.i64.wrap ((ji20) - x5_1)) = ji23 := (i64_w _).trans hji23
                                    by_cases c24 : 0 ≤ (ji23)
                                    · rw [if_pos c24] at H
                                      have c24b0 : decide (0 ≤ (ji23)) = true := decide_eq_true c24
                                      clear c24
                                      by_cases c25 : (ji23) < (l0.length : Int)
                                      · rw [if_pos c25] at H
                                        have c25b0 : decide ((ji23) < (l0.length : Int)) = true := decide_eq_true c25
                                        clear c25
                                        by_cases c26 : (rd l0 (ji20)) = (rd l0 (ji23))
                                        · rw [if_pos c26] at H
                                          have c26b0 : ((rd l0 (ji20)) == (rd l0 (ji23))) = true := beq_iff_eq.mpr c26
                                          have c26b1 : ((rd l0 (ji20)) != (rd l0 (ji23))) = false := bne_eq_false_iff_eq.mpr c26
                                          clear c26
                                          obtain rfl := Option.some.inj H
                                          have p164 : 0 ≤ (a1 : Int) := of_decide_eq_true (by first | (with_reducible assumption) | assumption)
                                          have q164 : a1 < (l0.length : Int) := of_decide_eq_true (by first | (with_reducible assumption) | assumption)
                                          obtain ⟨ad164, e164, hx164_0⟩ := Kd.at_int HR0.out a1 p164 q164
                                          cases e164
                                          replace p164 := eq_true p164
                                          replace q164 := eq_true q164
                                          have p165 : 0 ≤ ((ji9) : Int) := of_decide_eq_true (by first | (with_reducible assumption) | assumption)
                                          have q165 : (ji9) < (l0.length : Int) := of_decide_eq_true (by first | (with_reducible assumption) | assumption)
                                          obtain ⟨ad165, e165, hx165_0⟩ := Kd.at_int HR0.out (ji9) p165 q165
                                          obtain rfl : ad164 = ad165 := (by injection e165)
                                          replace p165 := eq_true p165
                                          replace q165 := eq_true q165
                                          have p166 : 0 ≤ ((ji13) : Int) := of_decide_eq_true (by first | (with_reducible assumption) | assumption)
                                          have q166 : (ji13) < (l0.length : Int) := of_decide_eq_true (by first | (with_reducible assumption) | assumption)
                                          obtain ⟨ad166, e166, hx166_0⟩ := Kd.at_int HR0.out (ji13) p166 q166
                                          obtain rfl : ad164 = ad166 := (by injection e166)
                                          replace p166 := eq_true p166
                                          replace q166 := eq_true q166
                                          have p167 : 0 ≤ ((ji16) : Int) := of_decide_eq_true (by first | (with_reducible assumption) | assumption)
                                          have q167 : (ji16) < (l0.length : Int) := of_decide_eq_true (by first | (with_reducible assumption) | assumption)
                                          obtain ⟨ad167, e167, hx167_0⟩ := Kd.at_int HR0.out (ji16) p167 q167
                                          obtain rfl : ad164 = ad167 := (by injection e167)
                                          replace p167 := eq_true p167
                                          replace q167 := eq_true q167
                                          have p168 : 0 ≤ ((ji20) : Int) := of_decide_eq_true (by first | (with_reducible assumption) | assumption)
                                          have q168 : (ji20) < (l0.length : Int) := of_decide_eq_true (by first | (with_reducible assumption) | assumption)
                                          obtain ⟨ad168, e168, hx168_0⟩ := Kd.at_int HR0.out (ji20) p168 q168
                                          obtain rfl : ad164 = ad168 := (by injection e168)
                                          replace p168 := eq_true p168
                                          replace q168 := eq_true q168
                                          have p169 : 0 ≤ ((ji23) : Int) := of_decide_eq_true (by first | (with_reducible assumption) | assumption)
                                          have q169 : (ji23) < (l0.length : Int) := of_decide_eq_true (by first | (with_reducible assumption) | assumption)
                                          obtain ⟨ad169, e169, hx169_0⟩ := Kd.at_int HR0.out (ji23) p169 q169
                                          obtain rfl : ad164 = ad169 := (by injection e169)
                                          replace p169 := eq_true p169
                                          replace q169 := eq_true q169
                                          go_wp2
                                          repeat (go_quiet (fail); try go_wp2)
                                          go_ret
                                          exact ⟨by first | rfl | (simp; done) | (simp only [← hji9, ← hji13, ← hji16, ← hji20, ← hji23] <;> (first | rfl | simp)) | (simp [*]; done), by repeat (first | exact Drawn0.refl _ | apply Drawn0.step)⟩
                                        · rw [if_neg c26] at H
                                          have c26b0 : ((rd l0 (ji20)) == (rd l0 (ji23))) = false := beq_eq_false_iff_ne.mpr c26
                                          have c26b1 : ((rd l0 (ji20)) != (rd l0 (ji23))) = true := bne_iff_ne.mpr c26
                                          have H' := Aside0.mk H
                                          clear H
                                          have p164 : 0 ≤ (a1 : Int) := of_decide_eq_true (by first | (with_reducible assumption) | assumption)
                                          have q164 : a1 < (l0.length : Int) := of_decide_eq_true (by first | (with_reducible assumption) | assumption)
                                          obtain ⟨ad164, e164, hx164_0⟩ := Kd.at_int HR0.out a1 p164 q164
                                          cases e164
                                          replace p164 := eq_true p164
                                          replace q164 := eq_true q164
                                          have p165 : 0 ≤ ((ji9) : Int) := of_decide_eq_true (by first | (with_reducible assumption) | assumption)
                                          have q165 : (ji9) < (l0.length : Int) := of_decide_eq_true (by first | (with_reducible assumption) | assumption)
                                          obtain ⟨ad165, e165, hx165_0⟩ := Kd.at_int HR0.out (ji9) p165 q165
                                          obtain rfl : ad164 = ad165 := (by injection e165)
                                          replace p165 := eq_true p165
                                          replace q165 := eq_true q165
                                          have p166 : 0 ≤ ((ji13) : Int) := of_decide_eq_true (by first | (with_reducible assumption) | assumption)
                                          have q166 : (ji13) < (l0.length : Int) := of_decide_eq_true (by first | (with_reducible assumption) | assumption)
                                          obtain ⟨ad166, e166, hx166_0⟩ := Kd.at_int HR0.out (ji13) p166 q166
                                          obtain rfl : ad164 = ad166 := (by injection e166)
                                          replace p166 := eq_true p166
                                          replace q166 := eq_true q166
                                          have p167 : 0 ≤ ((ji16) : Int) := of_decide_eq_true (by first | (with_reducible assumption) | assumption)
                                          have q167 : (ji16) < (l0.length : Int) := of_decide_eq_true (by first | (with_reducible assumption) | assumption)
                                          obtain ⟨ad167, e167, hx167_0⟩ := Kd.at_int HR0.out (ji16) p167 q167
                                          obtain rfl : ad164 = ad167 := (by injection e167)
                                          replace p167 := eq_true p167
                                          replace q167 := eq_true q167
                                          have p168 : 0 ≤ ((ji20) : Int) := of_decide_eq_true (by first | (with_reducible assumption) | assumption)
                                          have q168 : (ji20) < (l0.length : Int) := of_decide_eq_true (by first | (with_reducible assumption) | assumption)
                                          obtain ⟨ad168, e168, hx168_0⟩ := Kd.at_int HR0.out (ji20) p168 q168
                                          obtain rfl : ad164 = ad168 := (by injection e168)
                                          replace p168 := eq_true p168
                                          replace q168 := eq_true q168
                                          have p169 : 0 ≤ ((ji23) : Int) := of_decide_eq_true (by first | (with_reducible assumption) | assumption)
                                          have q169 : (ji23) < (l0.length : Int) := of_decide_eq_true (by first | (with_reducible assumption) | assumption)
                                          obtain ⟨ad169, e169, hx169_0⟩ := Kd.at_int HR0.out (ji23) p169 q169
                                          obtain rfl : ad164 = ad169 := (by injection e169)
                                          replace p169 := eq_true p169
                                          replace q169 := eq_true q169
                                          go_wp2
                                          repeat (go_quiet (fail); try go_wp2)
                                          go_roundg kj2
                                          case measure => have := HK1.out; have := HJ2.out; omega
                                          case rel => exact ⟨(wrap64 (x5_1 + 1)), (by first | rfl | (simp; done) | (simp [*]; done)), H', ⟨by have := HK1.out; have := HJ2.out; omega⟩, by repeat (first | exact Drawn0.refl _ | apply Drawn0.step)⟩
                                      · rw [if_neg c25] at H
                                        exact absurd H (by simp)
                                    · rw [if_neg c24] at H
                                      exact absurd H (by simp)
                                  · rw [if_neg c22] at H
                                    exact absurd H (by simp)
                                · rw [if_neg c21] at H
                                  exact absurd H (by simp)
                              · rw [if_neg c19] at H
                                have c19b0 : ((rd l0 (ji13)) == (rd l0 (ji16))) = false := beq_eq_false_iff_ne.mpr c19
                                have c19b1 : ((rd l0 (ji13)) != (rd l0 (ji16))) = true := bne_iff_ne.mpr c19
                                have H' := Aside0.mk H
                                clear H
                                have p164 : 0 ≤ (a1 : Int) := of_decide_eq_true (by first | (with_reducible assumption) | assumption)
                                have q164 : a1 < (l0.length : Int) := of_decide_eq_true (by first | (with_reducible assumption) | assumption)
                                obtain ⟨ad164, e164, hx164_0⟩ := Kd.at_int HR0.out a1 p164 q164
                                cases e164
                                replace p164 := eq_true p164
                                replace q164 := eq_true q164
                                have p165 : 0 ≤ ((ji9) : Int) := of_decide_eq_true (by first | (with_reducible assumption) | assumption)
                                have q165 : (ji9) < (l0.length : Int) := of_decide_eq_true (by first | (with_reducible assumption) | assumption)
                                obtain ⟨ad165, e165, hx165_0⟩ := Kd.at_int HR0.out (ji9) p165 q165
                                obtain rfl : ad164 = ad165 := (by injection e165)
                                replace p165 := eq_true p165
                                replace q165 := eq_true q165
                                have p166 : 0 ≤ ((ji13) : Int) := of_decide_eq_true (by first | (with_reducible assumption) | assumption)
                                have q166 : (ji13) < (l0.length : Int) := of_decide_eq_true (by first | (with_reducible assumption) | assumption)
                                obtain ⟨ad166, e166, hx166_0⟩ := Kd.at_int HR0.out (ji13) p166 q166
                                obtain rfl : ad164 = ad166 := (by injection e166)
                                replace p166 := eq_true p166
                                replace q166 := eq_true q166
                                have p167 : 0 ≤ ((ji16) : Int) := of_decide_eq_true (by first | (with_reducible assumption) | assumption)
                                have q167 : (ji16) < (l0.length : Int) := of_decide_eq_true (by first | (with_reducible assumption) | assumption)
                                obtain ⟨ad167, e167, hx167_0⟩ := Kd.at_int HR0.out (ji16) p167 q167
                                obtain rfl : ad164 = ad167 := (by injection e167)
                                replace p167 := eq_true p167
                                replace q167 := eq_true q167
                                go_wp2
                                repeat (go_quiet (fail); try go_wp2)
                                go_roundg kj2
                                case measure => have := HK1.out; have := HJ2.out; omega
                                case rel => exact ⟨(wrap64 (x5_1 + 1)), (by first | rfl | (simp; done) | (simp [*]; done)), H', ⟨by have := HK1.out; have := HJ2.out; omega⟩, by repeat (first | exact Drawn0.refl _ | apply Drawn0.step)⟩
                            · rw [if_neg c18] at H
                              exact absurd H (by simp)
                          · rw [if_neg c17] at H
                            exact absurd H (by simp)
                        · rw [if_neg c15] at H
                          exact absurd H (by simp)
                      · rw [if_neg c14] at H
                        exact absurd H (by simp)
                    · rw [if_neg c12] at H
                      have c12b0 : ((rd l0 a1) == (rd l0 (ji9))) = false := beq_eq_false_iff_ne.mpr c12
                      have c12b1 : ((rd l0 a1) != (rd l0 (ji9))) = true := bne_iff_ne.mpr c12
                      have H' := Aside0.mk H
                      clear H
                      have p164 : 0 ≤ (a1 : Int) := of_decide_eq_true (by first | (with_reducible assumption) | assumption)
                      have q164 : a1 < (l0.length : Int) := of_decide_eq_true (by first | (with_reducible assumption) | assumption)
                      obtain ⟨ad164, e164, hx164_0⟩ := Kd.at_int HR0.out a1 p164 q164
                      cases e164
                      replace p164 := eq_true p164
                      replace q164 := eq_true q164
                      have p165 : 0 ≤ ((ji9) : Int) := of_decide_eq_true (by first | (with_reducible assumption) | assumption)
                      have q165 : (ji9) < (l0.length : Int) := of_decide_eq_true (by first | (with_reducible assumption) | assumption)
                      obtain ⟨ad165, e165, hx165_0⟩ := Kd.at_int HR0.out (ji9) p165 q165
                      obtain rfl : ad164 = ad165 := (by injection e165)
                      replace p165 := eq_true p165
                      replace q165 := eq_true q165
                      go_wp2
                      repeat (go_quiet (fail); try go_wp2)
                      go_roundg kj2
                      case measure => have := HK1.out; have := HJ2.out; omega
                      case rel => exact ⟨(wrap64 (x5_1 + 1)), (by first | rfl | (simp; done) | (simp [*]; done)), H', ⟨by have := HK1.out; have := HJ2.out; omega⟩, by repeat (first | exact Drawn0.refl _ | apply Drawn0.step)⟩
                  · rw [if_neg c11] at H
                    exact absurd H (by simp)
                · rw [if_neg c10] at H
                  exact absurd H (by simp)
              · rw [if_neg c8] at H
                exact absurd H (by simp)
            · rw [if_neg c7] at H
              exact absurd H (by simp)
          · replace c6 := Bool.eq_false_iff.mpr c6
            subst c6
            have H1 : (some false) = some r := by rw [if_neg (show ¬ (false = true) by decide)] at H; exact H
            clear H
            have H := H1
            clear H1
            obtain rfl := Option.some.inj H
            go_wp2
            repeat (go_quiet (fail); try go_wp2)
            go_ret
            exact ⟨by first | rfl | (simp; done) | (simp [*]; done), by repeat (first | exact Drawn0.refl _ | apply Drawn0.step)⟩

end Go.Proofs.Ytohkjiellcikhaa.P07
