-- Printed for this claim by a program over the kit's print; some callees are given by texts of mine. Lean checks it.
import Derived.Test.YtohkjiellcikhaaP07x0
import Derived.Test.YtohkjiellcikhaaP07x14
import Derived.Test.YtohkjiellcikhaaP07x15
import Derived.Test.YtohkjiellcikhaaGAlive07
import Derived.Test.YtohkjiellcikhaaGFind
namespace Go.Proofs.Ytohkjiellcikhaa.P07
open Go.RowKit Go.Proofs.YtohkjiellcikhaaW.PrintWords Go.Proofs.YtohkjiellcikhaaW.PrintLast Go.Proofs.YtohkjiellcikhaaW.PrintMore
attribute [local go_sem] max2_int min2_int max_two min_two max_three min_three max_four min_four   -- for this text's walks alone
set_option linter.unusedVariables false
set_option linter.unusedSimpArgs false

/-! ### wainloadlaw07_MatchNears: function 6 -/
mutual
def wainloadlaw07_MatchNears.j0 : Nat → List Int → Int → Bool → Option (Bool)
  | 0, _, _, _ => none
  | k + 1, x0, x1, x14 => if x14 = true then ((wainloadlaw07_alive.f).bind fun t170 => (some t170)) else ((match_Find.f x0 x1).bind fun t171 => ((wainloadref07_Alone.f k t171).bind fun t174 => (if (t174.length : Int) = (x0.length : Int) then (wainloadlaw07_MatchNears.l0 k x0 t174 0) else (some false))))
def wainloadlaw07_MatchNears.l0 : Nat → List Int → List Bool → Int → Option (Bool)
  | 0, _, _, _ => none
  | k + 1, x0, x6, x7 => if (wrap64 (x7 + 1)) < (x0.length : Int) then (if 0 ≤ x7 then (if x7 < (x6.length : Int) then (if rdOf false x6 x7 = true then (if 0 ≤ (wrap64 (x7 + 1)) then (if (wrap64 (x7 + 1)) < (x6.length : Int) then (if rdOf false x6 (wrap64 (x7 + 1)) = true then ((wainloadref07_Near.f k x0 x7).bind fun t180 => (if t180 = true then ((wainloadref07_Near.f k x0 (wrap64 (x7 + 1))).bind fun t181 => (if t181 = true then (some false) else (wainloadlaw07_MatchNears.l0 k x0 x6 (wrap64 (x7 + 1))))) else (wainloadlaw07_MatchNears.l0 k x0 x6 (wrap64 (x7 + 1))))) else (wainloadlaw07_MatchNears.l0 k x0 x6 (wrap64 (x7 + 1)))) else (none)) else (none)) else (wainloadlaw07_MatchNears.l0 k x0 x6 (wrap64 (x7 + 1)))) else (none)) else (none)) else ((wainloadlaw07_alive.f).bind fun t177 => (some t177))
end
def wainloadlaw07_MatchNears.f (k : Nat) (l0 : List Int) (a1 : Int) : Option (Bool) := if (l0.length : Int) > 3000 then (wainloadlaw07_MatchNears.j0 k l0 a1 true) else (wainloadlaw07_MatchNears.j0 k l0 a1 (decide (a1 < 1)))
theorem wainloadlaw07_MatchNears.mono_l : ∀ k, (∀ y0 y1 y2, LeO (wainloadlaw07_MatchNears.j0 k y0 y1 y2) (wainloadlaw07_MatchNears.j0 (k + 1) y0 y1 y2)) ∧ (∀ y0 y1 y2, LeO (wainloadlaw07_MatchNears.l0 k y0 y1 y2) (wainloadlaw07_MatchNears.l0 (k + 1) y0 y1 y2))
  | 0 => ⟨fun _ _ _ r h => by simp [wainloadlaw07_MatchNears.j0] at h, fun _ _ _ r h => by simp [wainloadlaw07_MatchNears.l0] at h⟩
  | k + 1 => by
    obtain ⟨ih0, ih1⟩ := wainloadlaw07_MatchNears.mono_l k
    refine ⟨?_, ?_⟩
    · intro y0 y1 y2
      unfold wainloadlaw07_MatchNears.j0
      repeat' first
      | (with_reducible exact ih0 _ _ _)
      | (with_reducible exact ih1 _ _ _)
      | (with_reducible exact wainloadref07_Alone.mono _ _)
      | (with_reducible exact wainloadref07_Near.mono _ _ _)
      | (with_reducible exact LeO.refl _)
      | (with_reducible exact LeO.none _)
      | (with_reducible refine LeO.ite ?_ ?_)
      | (with_reducible refine LeO.bind ?_ (fun _ => ?_))
      | exact ih0 _ _ _
      | exact ih1 _ _ _
      | exact wainloadref07_Alone.mono _ _
      | exact wainloadref07_Near.mono _ _ _
      | exact LeO.none _
      | refine LeO.ite ?_ ?_
      | refine LeO.bind ?_ (fun _ => ?_)
    · intro y0 y1 y2
      unfold wainloadlaw07_MatchNears.l0
      repeat' first
      | (with_reducible exact ih0 _ _ _)
      | (with_reducible exact ih1 _ _ _)
      | (with_reducible exact wainloadref07_Alone.mono _ _)
      | (with_reducible exact wainloadref07_Near.mono _ _ _)
      | (with_reducible exact LeO.refl _)
      | (with_reducible exact LeO.none _)
      | (with_reducible refine LeO.ite ?_ ?_)
      | (with_reducible refine LeO.bind ?_ (fun _ => ?_))
      | exact ih0 _ _ _
      | exact ih1 _ _ _
      | exact wainloadref07_Alone.mono _ _
      | exact wainloadref07_Near.mono _ _ _
      | exact LeO.none _
      | refine LeO.ite ?_ ?_
      | refine LeO.bind ?_ (fun _ => ?_)
theorem wainloadlaw07_MatchNears.mono : ∀ a0 a1 k, LeO (wainloadlaw07_MatchNears.f k a0 a1) (wainloadlaw07_MatchNears.f (k + 1) a0 a1) := by
  intro a0 a1 k
  obtain ⟨ih0, ih1⟩ := wainloadlaw07_MatchNears.mono_l k
  unfold wainloadlaw07_MatchNears.f
  repeat' first
      | (with_reducible exact ih0 _ _ _)
      | (with_reducible exact ih1 _ _ _)
      | (with_reducible exact wainloadref07_Alone.mono _ _)
      | (with_reducible exact wainloadref07_Near.mono _ _ _)
      | (with_reducible exact LeO.refl _)
      | (with_reducible exact LeO.none _)
      | (with_reducible refine LeO.ite ?_ ?_)
      | (with_reducible refine LeO.bind ?_ (fun _ => ?_))
      | exact ih0 _ _ _
      | exact ih1 _ _ _
      | exact wainloadref07_Alone.mono _ _
      | exact wainloadref07_Near.mono _ _ _
      | exact LeO.none _
      | refine LeO.ite ?_ ?_
      | refine LeO.bind ?_ (fun _ => ?_)
set_option maxHeartbeats 8000000 in
set_option maxRecDepth 100000 in
theorem wainloadlaw07_MatchNears.calls (k : Nat) (A0 : Option Addr) (c0 : Nat) (l0 : List Int) (a1 : Int) (r : Bool) (w : World) (hr0 : Kd.C (Kd.int .u8) w A0 l0.length l0) (hc0 : l0.length ≤ c0) (h : wainloadlaw07_MatchNears.f k l0 a1 = some r) :
    Calls Try.prog 6 #[.slice A0 l0.length c0, .int .i64 a1] w fun e w' => e = .returned (.bool r) ∧ Below w.heap.size w w' := by
  have HR0 := Aside0.mk hr0
  have HC0 := Aside0.mk hc0
  clear hr0 hc0
  have HB := Aside0.mk (Below.refl w.heap.size w)
  have H : (if (l0.length : Int) > 3000 then (wainloadlaw07_MatchNears.j0 k l0 a1 true) else (wainloadlaw07_MatchNears.j0 k l0 a1 (decide (a1 < 1)))) = some r := h
  clear h
  have HC3 := Aside0.mk H
  clear H
  go_enter Try.func6, Try.ntmps6
  go_upto_region 1 with (fail)
  go_cut [14] (fun v14 wc => ∃ (kq : Nat) (x14_2 : Bool), v14 = .bool x14_2 ∧ Aside0 (wainloadlaw07_MatchNears.j0 kq l0 a1 x14_2 = some r) ∧ Aside0 (kq ≤ k) ∧ Aside0 (Below w.heap.size w wc))
  case first =>
    have H := HC3.out
    clear HC3
    by_cases c4 : (l0.length : Int) > 3000
    · rw [if_pos c4] at H
      have c4b0 : decide (3000 < (l0.length : Int)) = true := decide_eq_true c4
      have c4b1 : decide (3000 < l0.length) = true := decide_eq_true (by omega)
      clear c4
      (first | rw [c4b0] | (simp only [i64_w, i32_w]; rw [c4b0]) | skip)
      have H' := Aside0.mk H
      clear H
      go_wp2
      go_meet
      case rel => exact ⟨_, (true), (by first | rfl | (simp; done) | (simp [*]; done)), H', ⟨by first | omega | exact Nat.le_refl _⟩, ⟨by repeat (first | (with_reducible first | exact HB.out | apply below_alloc | apply pw_below_drewN | apply below_drew1) | exact HB.out)⟩⟩
    · rw [if_neg c4] at H
      have c4b0 : decide (3000 < (l0.length : Int)) = false := decide_eq_false c4
      have c4b1 : decide (3000 < l0.length) = false := decide_eq_false (by omega)
      clear c4
      (first | rw [c4b0] | (simp only [i64_w, i32_w]; rw [c4b0]) | skip)
      have H' := Aside0.mk H
      clear H
      go_wp2
      go_meet
      case rel => exact ⟨_, (decide (a1 < 1)), (by first | rfl | (simp; done) | (simp [*]; done)), H', ⟨by first | omega | exact Nat.le_refl _⟩, ⟨by repeat (first | (with_reducible first | exact HB.out | apply below_alloc | apply pw_below_drewN | apply below_drew1) | exact HB.out)⟩⟩
  case rest =>
    clear HC3
    try clear p2
    try clear c4
    try clear c4b0
    try clear c4b1
    obtain ⟨kq, x14_2, rfl, HA, HJ2, HB⟩ := hcut
    cases kq with
    | zero => exact absurd HA.out (by simp [wainloadlaw07_MatchNears.j0])
    | succ kj2 =>
      have H := HA.out
      clear HA
      simp only [wainloadlaw07_MatchNears.j0] at H
      by_cases c5 : x14_2 = true
      · subst c5
        have H1 : ((wainloadlaw07_alive.f).bind fun t170 => (some t170)) = some r := by rw [if_pos rfl] at H; exact H
        clear H
        have H := H1
        clear H1
        replace H := Option.bind_eq_some_iff.mp H
        obtain ⟨t170, A60, H⟩ := H
        replace H : (some t170) = some r := H
        have A6 := Aside0.mk A60
        clear A60
        obtain rfl := Option.some.inj H
        go_wp2_with (first | ((with_reducible refine gate_callee (f := 11) rfl ?_); refine goesL_ (some 15) rfl rfl Try.func11 (by kernel_rfl) rfl #[] rfl (by (try simp only [List.map_toArray, List.map_cons, List.map_nil]); first | done | rfl | (simp only [List.length_drop, List.length_take]; rfl)) ?_; (with_reducible refine (wainloadlaw07_alive.calls  t170 _ A6.out).mono ?_); rintro e w7 ⟨rfl, hb⟩; refine ⟨_, rfl, ?_⟩; have n0_ := Aside0.mk (below_step (by repeat (first | (with_reducible first | exact HB.out | apply below_alloc | apply pw_below_drewN | apply below_drew1) | exact HB.out)) hb); clear HB; have HB := n0_; clear n0_; (try clear hb); (try clear hb2); (try clear hk); (try clear hi)))
        go_ret
        exact ⟨by first | rfl | (simp [errW_none, errW_some] <;> rfl) | (simp [*, errW_none, errW_some] <;> rfl), by repeat (first | (with_reducible first | exact HB.out | apply below_alloc | apply pw_below_drewN | apply below_drew1) | exact HB.out)⟩
      · replace c5 := Bool.eq_false_iff.mpr c5
        subst c5
        have H1 : ((match_Find.f l0 a1).bind fun t171 => ((wainloadref07_Alone.f kj2 t171).bind fun t174 => (if (t174.length : Int) = (l0.length : Int) then (wainloadlaw07_MatchNears.l0 kj2 l0 t174 0) else (some false)))) = some r := by rw [if_neg (show ¬ (false = true) by decide)] at H; exact H
        clear H
        have H := H1
        clear H1
        replace H := Option.bind_eq_some_iff.mp H
        obtain ⟨t171, A80, H⟩ := H
        replace H : ((wainloadref07_Alone.f kj2 t171).bind fun t174 => (if (t174.length : Int) = (l0.length : Int) then (wainloadlaw07_MatchNears.l0 kj2 l0 t174 0) else (some false))) = some r := H
        have A8 := Aside0.mk A80
        clear A80
        replace H := Option.bind_eq_some_iff.mp H
        obtain ⟨t174, A90, H⟩ := H
        replace H : (if (t174.length : Int) = (l0.length : Int) then (wainloadlaw07_MatchNears.l0 kj2 l0 t174 0) else (some false)) = some r := H
        have A9 := Aside0.mk A90
        clear A90
        by_cases c10 : (t174.length : Int) = (l0.length : Int)
        · rw [if_pos c10] at H
          have c10b0 : ((t174.length : Int) == (l0.length : Int)) = true := beq_iff_eq.mpr c10
          have c10b1 : ((t174.length : Int) != (l0.length : Int)) = false := bne_eq_false_iff_eq.mpr c10
          have c10b2 : (t174.length == l0.length) = true := by first | simpa using c10 | (simp at c10 ⊢; omega)
          clear c10
          have H' := Aside0.mk H
          clear H
          go_wp2_with (first | ((with_reducible refine gate_callee (f := 16) rfl ?_); refine goesL_ (some 18) rfl rfl Try.func16 (by kernel_rfl) rfl #[.slice A0 l0.length c0, .int .i64 a1] rfl (by (try simp only [List.map_toArray, List.map_cons, List.map_nil]); first | done | rfl | (simp only [List.length_drop, List.length_take]; rfl)) ?_; (with_reducible refine (match_Find.calls _ _ l0 a1 t171 _ ?side1 ?side2 A8.out).mono ?_); (case side1 => repeat (first | exact (Kd.C_below HR0.out HB.out) | (with_reducible refine Kd.C_alloc ?_ _) | (with_reducible refine Kd.C_drewN ?_ _) | (with_reducible refine Kd.C_drew ?_))); (case side2 => exact HC0.out); rintro e w11 ⟨v172, rfl, ho0, hb⟩; refine ⟨_, rfl, ?_⟩; have n0_ := Aside0.mk (Kd.R_lower ho0 (below_size (by repeat (first | (with_reducible first | exact HB.out | apply below_alloc | apply pw_below_drewN | apply below_drew1) | exact HB.out)))); have n1_ := Aside0.mk (below_step (by repeat (first | (with_reducible first | exact HB.out | apply below_alloc | apply pw_below_drewN | apply below_drew1) | exact HB.out)) hb); clear HB; have HO173 := n0_; have HB := n1_; clear n0_ n1_; (try clear hb); (try clear hb2); (try clear hk); (try clear hi); (try clear ho0); obtain ⟨Ao12, co12, eo12⟩ := Kd.R_slice HO173.out; subst eo12) | ((with_reducible refine gate_callee (f := 17) rfl ?_); refine goesL_ (some 20) rfl rfl Try.func17 (by kernel_rfl) rfl #[.slice Ao12 t171.length co12] rfl (by (try simp only [List.map_toArray, List.map_cons, List.map_nil]); first | done | rfl | (simp only [List.length_drop, List.length_take]; rfl)) ?_; (with_reducible refine (wainloadref07_Alone.calls kj2 _ _ t171 t174 _ ?side1 ?side2 A9.out).mono ?_); (case side1 => repeat (first | exact (Kd.R_reads' HO173.out).2.2 | (with_reducible refine Kd.C_alloc ?_ _) | (with_reducible refine Kd.C_drewN ?_ _) | (with_reducible refine Kd.C_drew ?_))); (case side2 => exact (Kd.R_reads' HO173.out).2.1); rintro e w13 ⟨v175, rfl, ho0, hb⟩; refine ⟨_, rfl, ?_⟩; have n0_ := Aside0.mk (Kd.R_below (by (with_reducible repeat (first | apply Kd.R_alloc | apply Kd.R_drewN | apply Kd.R_drew)); exact HO173.out) hb); have n1_ := Aside0.mk (Kd.R_lower ho0 (below_size (by repeat (first | (with_reducible first | exact HB.out | apply below_alloc | apply pw_below_drewN | apply below_drew1) | exact HB.out)))); have n2_ := Aside0.mk (below_step (by repeat (first | (with_reducible first | exact HB.out | apply below_alloc | apply pw_below_drewN | apply below_drew1) | exact HB.out)) hb); clear HO173; clear HB; have HO173 := n0_; have HO176 := n1_; have HB := n2_; clear n0_ n1_ n2_; (try clear hb); (try clear hb2); (try clear hk); (try clear hi); (try clear ho0); obtain ⟨Ao14, co14, eo14⟩ := Kd.R_slice HO176.out; subst eo14))
          go_loopg [7] kj2 (fun kq v7 w' => ∃ (x7_2 : Int), v7 = .int .i64 x7_2 ∧ Aside0 (wainloadlaw07_MatchNears.l0 kq l0 t174 x7_2 = some r) ∧ Aside0 (kq ≤ kj2) ∧ Aside0 (Kd.R Kd.bool 4 w' w.heap.size (fun _ => True) (.slice Ao14 t174.length co14) t174) ∧ Aside0 (Below w.heap.size w w'))
          case atStart => exact ⟨(0), (by first | rfl | (simp; done) | (simp [*]; done)), H', ⟨Nat.le_refl _⟩, ⟨by (with_reducible repeat (first | apply Kd.R_alloc | apply Kd.R_drewN | apply Kd.R_drew)); exact HO176.out⟩, ⟨by repeat (first | (with_reducible first | exact HB.out | apply below_alloc | apply pw_below_drewN | apply below_drew1) | exact HB.out)⟩⟩
          case round =>
            clear H'
            try clear c1
            try clear p2
            try clear c4
            try clear c4b0
            try clear c4b1
            try clear c5
            try clear c6
            try clear c10
            try clear c10b0
            try clear c10b1
            try clear c10b2
            try clear c11
            try clear p2
            obtain ⟨x7_2, rfl, HA, HK2, HO_6, HB⟩ := hrel
            cases gk with
            | zero => exact absurd HA.out (by simp [wainloadlaw07_MatchNears.l0])
            | succ k2 =>
              have H := HA.out
              clear HA
              simp only [wainloadlaw07_MatchNears.l0] at H
              by_cases c15 : (wrap64 (x7_2 + 1)) < (l0.length : Int)
              · rw [if_pos c15] at H
                have c15b0 : decide ((wrap64 (x7_2 + 1)) < (l0.length : Int)) = true := decide_eq_true c15
                clear c15
                by_cases c16 : 0 ≤ x7_2
                · rw [if_pos c16] at H
                  have c16b0 : decide (0 ≤ x7_2) = true := decide_eq_true c16
                  clear c16
                  by_cases c17 : x7_2 < (t174.length : Int)
                  · rw [if_pos c17] at H
                    have c17b0 : decide (x7_2 < (t174.length : Int)) = true := decide_eq_true c17
                    clear c17
                    obtain ⟨bq18, hbq18⟩ : ∃ b_ : Bool, b_ = (rdOf false t174 x7_2) := ⟨_, rfl⟩
                    replace H : (if bq18 = true then (if 0 ≤ (wrap64 (x7_2 + 1)) then (if (wrap64 (x7_2 + 1)) < (t174.length : Int) then (if rdOf false t174 (wrap64 (x7_2 + 1)) = true then ((wainloadref07_Near.f k2 l0 x7_2).bind fun t180 => (if t180 = true then ((wainloadref07_Near.f k2 l0 (wrap64 (x7_2 + 1))).bind fun t181 => (if t181 = true then (some false) else (wainloadlaw07_MatchNears.l0 k2 l0 t174 (wrap64 (x7_2 + 1))))) else (wainloadlaw07_MatchNears.l0 k2 l0 t174 (wrap64 (x7_2 + 1))))) else (wainloadlaw07_MatchNears.l0 k2 l0 t174 (wrap64 (x7_2 + 1)))) else (none)) else (none)) else (wainloadlaw07_MatchNears.l0 k2 l0 t174 (wrap64 (x7_2 + 1)))) = some r := by rw [← hbq18] at H; exact H
                    have Nbq18 := Aside0.mk hbq18
                    clear hbq18
                    by_cases c19 : bq18 = true
                    · subst c19
                      have H1 : (if 0 ≤ (wrap64 (x7_2 + 1)) then (if (wrap64 (x7_2 + 1)) < (t174.length : Int) then (if rdOf false t174 (wrap64 (x7_2 + 1)) = true then ((wainloadref07_Near.f k2 l0 x7_2).bind fun t180 => (if t180 = true then ((wainloadref07_Near.f k2 l0 (wrap64 (x7_2 + 1))).bind fun t181 => (if t181 = true then (some false) else (wainloadlaw07_MatchNears.l0 k2 l0 t174 (wrap64 (x7_2 + 1))))) else (wainloadlaw07_MatchNears.l0 k2 l0 t174 (wrap64 (x7_2 + 1))))) else (wainloadlaw07_MatchNears.l0 k2 l0 t174 (wrap64 (x7_2 + 1)))) else (none)) else (none)) = some r := by rw [if_pos rfl] at H; exact H
                      clear H
                      have H := H1
                      clear H1
                      obtain ⟨ji20, hji20⟩ : ∃ j_ : Int, (wrap64 (x7_2 + 1)) = j_ := ⟨_, rfl⟩
                      replace H : (if 0 ≤ (ji20) then (if (ji20) < (t174.length : Int) then (if rdOf false t174 (ji20) = true then ((wainloadref07_Near.f k2 l0 x7_2).bind fun t180 => (if t180 = true then ((wainloadref07_Near.f k2 l0 (ji20)).bind fun t181 => (if t181 = true then (some false) else (wainloadlaw07_MatchNears.l0 k2 l0 t174 ji20))) else (wainloadlaw07_MatchNears.l0 k2 l0 t174 ji20))) else (wainloadlaw07_MatchNears.l0 k2 l0 t174 ji20)) else (none)) else (none)) = some r := by first | (rw [hji20] at H; exact H) | (simp only [hji20] at H ⊢; exact H)
                      (try rw [hji20] at c15b0)
                      have hji20w : (IntKind.i64.wrap (x7_2 + 1)) = ji20 := (i64_w _).trans hji20
                      by_cases c21 : 0 ≤ (ji20)
                      · rw [if_pos c21] at H
                        have c21b0 : decide (0 ≤ (ji20)) = true := decide_eq_true c21
                        clear c21
                        by_cases c22 : (ji20) < (t174.length : Int)
                        · rw [if_pos c22] at H
                          have c22b0 : decide ((ji20) < (t174.length : Int)) = true := decide_eq_true c22
                          clear c22
                          obtain ⟨bq23, hbq23⟩ : ∃ b_ : Bool, b_ = (rdOf false t174 (ji20)) := ⟨_, rfl⟩
                          replace H : (if bq23 = true then ((wainloadref07_Near.f k2 l0 x7_2).bind fun t180 => (if t180 = true then ((wainloadref07_Near.f k2 l0 (ji20)).bind fun t181 => (if t181 = true then (some false) else (wainloadlaw07_MatchNears.l0 k2 l0 t174 ji20))) else (wainloadlaw07_MatchNears.l0 k2 l0 t174 ji20))) else (wainloadlaw07_MatchNears.l0 k2 l0 t174 ji20)) = some r := by rw [← hbq23] at H; exact H
                          have Nbq23 := Aside0.mk hbq23
                          clear hbq23
                          by_cases c24 : bq23 = true
                          · subst c24
                            have H1 : ((wainloadref07_Near.f k2 l0 x7_2).bind fun t180 => (if t180 = true then ((wainloadref07_Near.f k2 l0 (ji20)).bind fun t181 => (if t181 = true then (some false) else (wainloadlaw07_MatchNears.l0 k2 l0 t174 ji20))) else (wainloadlaw07_MatchNears.l0 k2 l0 t174 ji20))) = some r := by rw [if_pos rfl] at H; exact H
                            clear H
                            have H := H1
                            clear H1
                            replace H := Option.bind_eq_some_iff.mp H
                            obtain ⟨t180, A250, H⟩ := H
                            replace H : (if t180 = true then ((wainloadref07_Near.f k2 l0 (ji20)).bind fun t181 => (if t181 = true then (some false) else (wainloadlaw07_MatchNears.l0 k2 l0 t174 ji20))) else (wainloadlaw07_MatchNears.l0 k2 l0 t174 ji20)) = some r := H
                            have A25 := Aside0.mk A250
                            clear A250
                            by_cases c26 : t180 = true
                            · subst c26
                              have H1 : ((wainloadref07_Near.f k2 l0 (ji20)).bind fun t181 => (if t181 = true then (some false) else (wainloadlaw07_MatchNears.l0 k2 l0 t174 ji20))) = some r := by rw [if_pos rfl] at H; exact H
                              clear H
                              have H := H1
                              clear H1
                              replace H := Option.bind_eq_some_iff.mp H
                              obtain ⟨t181, A270, H⟩ := H
                              replace H : (if t181 = true then (some false) else (wainloadlaw07_MatchNears.l0 k2 l0 t174 ji20)) = some r := H
                              have A27 := Aside0.mk A270
                              clear A270
                              by_cases c28 : t181 = true
                              · subst c28
                                have H1 : (some false) = some r := by rw [if_pos rfl] at H; exact H
                                clear H
                                have H := H1
                                clear H1
                                obtain rfl := Option.some.inj H
                                have p178 : 0 ≤ (x7_2 : Int) := of_decide_eq_true (by first | (with_reducible assumption) | assumption)
                                have q178 : x7_2 < (t174.length : Int) := of_decide_eq_true (by first | (with_reducible assumption) | assumption)
                                obtain ⟨ad178, e178, hx178_0⟩ := Kd.at_bool (Kd.R_reads' HO_6.out).2.2 x7_2 p178 q178
                                (try rw [← Nbq18.out] at hx178_0)
                                (try rw [← Nbq23.out] at hx178_0)
                                cases e178
                                replace p178 := eq_true p178
                                replace q178 := eq_true q178
                                have p179 : 0 ≤ ((ji20) : Int) := of_decide_eq_true (by first | (with_reducible assumption) | assumption)
                                have q179 : (ji20) < (t174.length : Int) := of_decide_eq_true (by first | (with_reducible assumption) | assumption)
                                obtain ⟨ad179, e179, hx179_0⟩ := Kd.at_bool (Kd.R_reads' HO_6.out).2.2 (ji20) p179 q179
                                (try rw [← Nbq18.out] at hx179_0)
                                (try rw [← Nbq23.out] at hx179_0)
                                obtain rfl : ad178 = ad179 := (by injection e179)
                                replace p179 := eq_true p179
                                replace q179 := eq_true q179
                                go_wp2_with (first | (go_at_call 18; (with_reducible refine (wainloadref07_Near.calls k2 _ _ l0 x7_2 true _ ?side1 ?side2 A25.out).mono ?_); (case side1 => repeat (first | exact (Kd.C_below HR0.out HB.out) | (with_reducible refine Kd.C_alloc ?_ _) | (with_reducible refine Kd.C_drewN ?_ _) | (with_reducible refine Kd.C_drew ?_))); (case side2 => exact HC0.out); rintro e w' ⟨rfl, ⟨nd, rfl⟩⟩) | (go_at_call 18; (with_reducible refine (wainloadref07_Near.calls k2 _ _ l0 ji20 true _ ?side1 ?side2 A27.out).mono ?_); (case side1 => repeat (first | exact (Kd.C_below HR0.out (by repeat (first | (with_reducible first | exact HB.out | apply below_alloc | apply pw_below_drewN | apply below_drew1) | exact HB.out))) | (with_reducible refine Kd.C_alloc ?_ _) | (with_reducible refine Kd.C_drewN ?_ _) | (with_reducible refine Kd.C_drew ?_))); (case side2 => exact HC0.out); rintro e w' ⟨rfl, ⟨nd, rfl⟩⟩))
                                go_ret
                                exact ⟨by first | rfl | (simp [errW_none, errW_some] <;> rfl) | (simp only [← hji20]; first | rfl | (simp [errW_none, errW_some] <;> rfl)) | (simp [*, errW_none, errW_some] <;> rfl), by repeat (first | (with_reducible first | exact HB.out | apply below_alloc | apply pw_below_drewN | apply below_drew1) | exact HB.out)⟩
                              · replace c28 := Bool.eq_false_iff.mpr c28
                                subst c28
                                have H1 : (wainloadlaw07_MatchNears.l0 k2 l0 t174 ji20) = some r := by rw [if_neg (show ¬ (false = true) by decide)] at H; exact H
                                clear H
                                have H := H1
                                clear H1
                                have H' := Aside0.mk H
                                clear H
                                have p178 : 0 ≤ (x7_2 : Int) := of_decide_eq_true (by first | (with_reducible assumption) | assumption)
                                have q178 : x7_2 < (t174.length : Int) := of_decide_eq_true (by first | (with_reducible assumption) | assumption)
                                obtain ⟨ad178, e178, hx178_0⟩ := Kd.at_bool (Kd.R_reads' HO_6.out).2.2 x7_2 p178 q178
                                (try rw [← Nbq18.out] at hx178_0)
                                (try rw [← Nbq23.out] at hx178_0)
                                cases e178
                                replace p178 := eq_true p178
                                replace q178 := eq_true q178
                                have p179 : 0 ≤ ((ji20) : Int) := of_decide_eq_true (by first | (with_reducible assumption) | assumption)
                                have q179 : (ji20) < (t174.length : Int) := of_decide_eq_true (by first | (with_reducible assumption) | assumption)
                                obtain ⟨ad179, e179, hx179_0⟩ := Kd.at_bool (Kd.R_reads' HO_6.out).2.2 (ji20) p179 q179
                                (try rw [← Nbq18.out] at hx179_0)
                                (try rw [← Nbq23.out] at hx179_0)
                                obtain rfl : ad178 = ad179 := (by injection e179)
                                replace p179 := eq_true p179
                                replace q179 := eq_true q179
                                go_wp2_with (first | (go_at_call 18; (with_reducible refine (wainloadref07_Near.calls k2 _ _ l0 x7_2 true _ ?side1 ?side2 A25.out).mono ?_); (case side1 => repeat (first | exact (Kd.C_below HR0.out HB.out) | (with_reducible refine Kd.C_alloc ?_ _) | (with_reducible refine Kd.C_drewN ?_ _) | (with_reducible refine Kd.C_drew ?_))); (case side2 => exact HC0.out); rintro e w' ⟨rfl, ⟨nd, rfl⟩⟩) | (go_at_call 18; (with_reducible refine (wainloadref07_Near.calls k2 _ _ l0 ji20 false _ ?side1 ?side2 A27.out).mono ?_); (case side1 => repeat (first | exact (Kd.C_below HR0.out (by repeat (first | (with_reducible first | exact HB.out | apply below_alloc | apply pw_below_drewN | apply below_drew1) | exact HB.out))) | (with_reducible refine Kd.C_alloc ?_ _) | (with_reducible refine Kd.C_drewN ?_ _) | (with_reducible refine Kd.C_drew ?_))); (case side2 => exact HC0.out); rintro e w' ⟨rfl, ⟨nd, rfl⟩⟩))
                                go_roundg k2
                                case measure => have := HJ2.out; have := HK2.out; omega
                                case rel => exact ⟨(ji20), (by first | rfl | (simp; done) | (simp only [← hji20] <;> (first | rfl | simp)) | (simp [*]; done)), H', ⟨by have := HJ2.out; have := HK2.out; omega⟩, ⟨by (with_reducible repeat (first | apply Kd.R_alloc | apply Kd.R_drewN | apply Kd.R_drew)); exact HO_6.out⟩, ⟨by repeat (first | (with_reducible first | exact HB.out | apply below_alloc | apply pw_below_drewN | apply below_drew1) | exact HB.out)⟩⟩
                            · replace c26 := Bool.eq_false_iff.mpr c26
                              subst c26
                              have H1 : (wainloadlaw07_MatchNears.l0 k2 l0 t174 ji20) = some r := by rw [if_neg (show ¬ (false = true) by decide)] at H; exact H
                              clear H
                              have H := H1
                              clear H1
                              have H' := Aside0.mk H
                              clear H
                              have p178 : 0 ≤ (x7_2 : Int) := of_decide_eq_true (by first | (with_reducible assumption) | assumption)
                              have q178 : x7_2 < (t174.length : Int) := of_decide_eq_true (by first | (with_reducible assumption) | assumption)
                              obtain ⟨ad178, e178, hx178_0⟩ := Kd.at_bool (Kd.R_reads' HO_6.out).2.2 x7_2 p178 q178
                              (try rw [← Nbq18.out] at hx178_0)
                              (try rw [← Nbq23.out] at hx178_0)
                              cases e178
                              replace p178 := eq_true p178
                              replace q178 := eq_true q178
                              have p179 : 0 ≤ ((ji20) : Int) := of_decide_eq_true (by first | (with_reducible assumption) | assumption)
                              have q179 : (ji20) < (t174.length : Int) := of_decide_eq_true (by first | (with_reducible assumption) | assumption)
                              obtain ⟨ad179, e179, hx179_0⟩ := Kd.at_bool (Kd.R_reads' HO_6.out).2.2 (ji20) p179 q179
                              (try rw [← Nbq18.out] at hx179_0)
                              (try rw [← Nbq23.out] at hx179_0)
                              obtain rfl : ad178 = ad179 := (by injection e179)
                              replace p179 := eq_true p179
                              replace q179 := eq_true q179
                              go_wp2_with (first | (go_at_call 18; (with_reducible refine (wainloadref07_Near.calls k2 _ _ l0 x7_2 false _ ?side1 ?side2 A25.out).mono ?_); (case side1 => repeat (first | exact (Kd.C_below HR0.out HB.out) | (with_reducible refine Kd.C_alloc ?_ _) | (with_reducible refine Kd.C_drewN ?_ _) | (with_reducible refine Kd.C_drew ?_))); (case side2 => exact HC0.out); rintro e w' ⟨rfl, ⟨nd, rfl⟩⟩))
                              go_roundg k2
                              case measure => have := HJ2.out; have := HK2.out; omega
                              case rel => exact ⟨(ji20), (by first | rfl | (simp; done) | (simp only [← hji20] <;> (first | rfl | simp)) | (simp [*]; done)), H', ⟨by have := HJ2.out; have := HK2.out; omega⟩, ⟨by (with_reducible repeat (first | apply Kd.R_alloc | apply Kd.R_drewN | apply Kd.R_drew)); exact HO_6.out⟩, ⟨by repeat (first | (with_reducible first | exact HB.out | apply below_alloc | apply pw_below_drewN | apply below_drew1) | exact HB.out)⟩⟩
                          · replace c24 := Bool.eq_false_iff.mpr c24
                            subst c24
                            have H1 : (wainloadlaw07_MatchNears.l0 k2 l0 t174 ji20) = some r := by rw [if_neg (show ¬ (false = true) by decide)] at H; exact H
                            clear H
                            have H := H1
                            clear H1
                            have H' := Aside0.mk H
                            clear H
                            have p178 : 0 ≤ (x7_2 : Int) := of_decide_eq_true (by first | (with_reducible assumption) | assumption)
                            have q178 : x7_2 < (t174.length : Int) := of_decide_eq_true (by first | (with_reducible assumption) | assumption)
                            obtain ⟨ad178, e178, hx178_0⟩ := Kd.at_bool (Kd.R_reads' HO_6.out).2.2 x7_2 p178 q178
                            (try rw [← Nbq18.out] at hx178_0)
                            (try rw [← Nbq23.out] at hx178_0)
                            cases e178
                            replace p178 := eq_true p178
                            replace q178 := eq_true q178
                            have p179 : 0 ≤ ((ji20) : Int) := of_decide_eq_true (by first | (with_reducible assumption) | assumption)
                            have q179 : (ji20) < (t174.length : Int) := of_decide_eq_true (by first | (with_reducible assumption) | assumption)
                            obtain ⟨ad179, e179, hx179_0⟩ := Kd.at_bool (Kd.R_reads' HO_6.out).2.2 (ji20) p179 q179
                            (try rw [← Nbq18.out] at hx179_0)
                            (try rw [← Nbq23.out] at hx179_0)
                            obtain rfl : ad178 = ad179 := (by injection e179)
                            replace p179 := eq_true p179
                            replace q179 := eq_true q179
                            go_wp2
                            go_roundg k2
                            case measure => have := HJ2.out; have := HK2.out; omega
                            case rel => exact ⟨(ji20), (by first | rfl | (simp; done) | (simp only [← hji20] <;> (first | rfl | simp)) | (simp [*]; done)), H', ⟨by have := HJ2.out; have := HK2.out; omega⟩, ⟨by (with_reducible repeat (first | apply Kd.R_alloc | apply Kd.R_drewN | apply Kd.R_drew)); exact HO_6.out⟩, ⟨by repeat (first | (with_reducible first | exact HB.out | apply below_alloc | apply pw_below_drewN | apply below_drew1) | exact HB.out)⟩⟩
                        · rw [if_neg c22] at H
                          exact absurd H (by simp)
                      · rw [if_neg c21] at H
                        exact absurd H (by simp)
                    · replace c19 := Bool.eq_false_iff.mpr c19
                      subst c19
                      have H1 : (wainloadlaw07_MatchNears.l0 k2 l0 t174 (wrap64 (x7_2 + 1))) = some r := by rw [if_neg (show ¬ (false = true) by decide)] at H; exact H
                      clear H
                      have H := H1
                      clear H1
                      have H' := Aside0.mk H
                      clear H
                      have p178 : 0 ≤ (x7_2 : Int) := of_decide_eq_true (by first | (with_reducible assumption) | assumption)
                      have q178 : x7_2 < (t174.length : Int) := of_decide_eq_true (by first | (with_reducible assumption) | assumption)
                      obtain ⟨ad178, e178, hx178_0⟩ := Kd.at_bool (Kd.R_reads' HO_6.out).2.2 x7_2 p178 q178
                      (try rw [← Nbq18.out] at hx178_0)
                      cases e178
                      replace p178 := eq_true p178
                      replace q178 := eq_true q178
                      go_wp2
                      go_roundg k2
                      case measure => have := HJ2.out; have := HK2.out; omega
                      case rel => exact ⟨(wrap64 (x7_2 + 1)), (by first | rfl | (simp; done) | (simp [*]; done)), H', ⟨by have := HJ2.out; have := HK2.out; omega⟩, ⟨by (with_reducible repeat (first | apply Kd.R_alloc | apply Kd.R_drewN | apply Kd.R_drew)); exact HO_6.out⟩, ⟨by repeat (first | (with_reducible first | exact HB.out | apply below_alloc | apply pw_below_drewN | apply below_drew1) | exact HB.out)⟩⟩
                  · rw [if_neg c17] at H
                    exact absurd H (by simp)
                · rw [if_neg c16] at H
                  exact absurd H (by simp)
              · rw [if_neg c15] at H
                have c15b0 : decide ((wrap64 (x7_2 + 1)) < (l0.length : Int)) = false := decide_eq_false c15
                clear c15
                replace H := Option.bind_eq_some_iff.mp H
                obtain ⟨t177, A290, H⟩ := H
                replace H : (some t177) = some r := H
                have A29 := Aside0.mk A290
                clear A290
                obtain rfl := Option.some.inj H
                go_wp2_with (first | ((with_reducible refine gate_callee (f := 11) rfl ?_); refine goesL_ (some 55) rfl rfl Try.func11 (by kernel_rfl) rfl #[] rfl (by (try simp only [List.map_toArray, List.map_cons, List.map_nil]); first | done | rfl | (simp only [List.length_drop, List.length_take]; rfl)) ?_; (with_reducible refine (wainloadlaw07_alive.calls  t177 _ A29.out).mono ?_); rintro e w30 ⟨rfl, hb⟩; refine ⟨_, rfl, ?_⟩; have n0_ := Aside0.mk (Kd.R_below (by (with_reducible repeat (first | apply Kd.R_alloc | apply Kd.R_drewN | apply Kd.R_drew)); exact HO_6.out) hb); have n1_ := Aside0.mk (below_step (by repeat (first | (with_reducible first | exact HB.out | apply below_alloc | apply pw_below_drewN | apply below_drew1) | exact HB.out)) hb); clear HO_6; clear HB; have HO_6 := n0_; have HB := n1_; clear n0_ n1_; (try clear hb); (try clear hb2); (try clear hk); (try clear hi)))
                go_ret
                exact ⟨by first | rfl | (simp [errW_none, errW_some] <;> rfl) | (simp [*, errW_none, errW_some] <;> rfl), by repeat (first | (with_reducible first | exact HB.out | apply below_alloc | apply pw_below_drewN | apply below_drew1) | exact HB.out)⟩
        · rw [if_neg c10] at H
          have c10b0 : ((t174.length : Int) == (l0.length : Int)) = false := beq_eq_false_iff_ne.mpr c10
          have c10b1 : ((t174.length : Int) != (l0.length : Int)) = true := bne_iff_ne.mpr c10
          have c10b2 : (t174.length == l0.length) = false := by first | simpa using c10 | (simp at c10 ⊢; omega)
          obtain rfl := Option.some.inj H
          go_wp2_with (first | ((with_reducible refine gate_callee (f := 16) rfl ?_); refine goesL_ (some 18) rfl rfl Try.func16 (by kernel_rfl) rfl #[.slice A0 l0.length c0, .int .i64 a1] rfl (by (try simp only [List.map_toArray, List.map_cons, List.map_nil]); first | done | rfl | (simp only [List.length_drop, List.length_take]; rfl)) ?_; (with_reducible refine (match_Find.calls _ _ l0 a1 t171 _ ?side1 ?side2 A8.out).mono ?_); (case side1 => repeat (first | exact (Kd.C_below HR0.out HB.out) | (with_reducible refine Kd.C_alloc ?_ _) | (with_reducible refine Kd.C_drewN ?_ _) | (with_reducible refine Kd.C_drew ?_))); (case side2 => exact HC0.out); rintro e w31 ⟨v172, rfl, ho0, hb⟩; refine ⟨_, rfl, ?_⟩; have n0_ := Aside0.mk (Kd.R_lower ho0 (below_size (by repeat (first | (with_reducible first | exact HB.out | apply below_alloc | apply pw_below_drewN | apply below_drew1) | exact HB.out)))); have n1_ := Aside0.mk (below_step (by repeat (first | (with_reducible first | exact HB.out | apply below_alloc | apply pw_below_drewN | apply below_drew1) | exact HB.out)) hb); clear HB; have HO173 := n0_; have HB := n1_; clear n0_ n1_; (try clear hb); (try clear hb2); (try clear hk); (try clear hi); (try clear ho0); obtain ⟨Ao32, co32, eo32⟩ := Kd.R_slice HO173.out; subst eo32) | ((with_reducible refine gate_callee (f := 17) rfl ?_); refine goesL_ (some 20) rfl rfl Try.func17 (by kernel_rfl) rfl #[.slice Ao32 t171.length co32] rfl (by (try simp only [List.map_toArray, List.map_cons, List.map_nil]); first | done | rfl | (simp only [List.length_drop, List.length_take]; rfl)) ?_; (with_reducible refine (wainloadref07_Alone.calls kj2 _ _ t171 t174 _ ?side1 ?side2 A9.out).mono ?_); (case side1 => repeat (first | exact (Kd.R_reads' HO173.out).2.2 | (with_reducible refine Kd.C_alloc ?_ _) | (with_reducible refine Kd.C_drewN ?_ _) | (with_reducible refine Kd.C_drew ?_))); (case side2 => exact (Kd.R_reads' HO173.out).2.1); rintro e w33 ⟨v175, rfl, ho0, hb⟩; refine ⟨_, rfl, ?_⟩; have n0_ := Aside0.mk (Kd.R_below (by (with_reducible repeat (first | apply Kd.R_alloc | apply Kd.R_drewN | apply Kd.R_drew)); exact HO173.out) hb); have n1_ := Aside0.mk (Kd.R_lower ho0 (below_size (by repeat (first | (with_reducible first | exact HB.out | apply below_alloc | apply pw_below_drewN | apply below_drew1) | exact HB.out)))); have n2_ := Aside0.mk (below_step (by repeat (first | (with_reducible first | exact HB.out | apply below_alloc | apply pw_below_drewN | apply below_drew1) | exact HB.out)) hb); clear HO173; clear HB; have HO173 := n0_; have HO176 := n1_; have HB := n2_; clear n0_ n1_ n2_; (try clear hb); (try clear hb2); (try clear hk); (try clear hi); (try clear ho0); obtain ⟨Ao34, co34, eo34⟩ := Kd.R_slice HO176.out; subst eo34))
          go_ret
          exact ⟨by first | rfl | (simp [errW_none, errW_some] <;> rfl) | (simp [*, errW_none, errW_some] <;> rfl), by repeat (first | (with_reducible first | exact HB.out | apply below_alloc | apply pw_below_drewN | apply below_drew1) | exact HB.out)⟩

/-- THE ONE PURE STATEMENT of wainloadlaw07_MatchNears: yours. -/
def wainloadlaw07_MatchNears.Pure : Prop := ∀ (l0 : List Int) (a1 : Int), l0.length ≤ maxLen → l0.length * 1 ≤ 140737488351232 → (∀ x ∈ l0, (Lit.int .u8 x).wf = true) → (Lit.int .i64 a1).wf = true → ∃ k, wainloadlaw07_MatchNears.f k l0 a1 = some true
theorem wainloadlaw07_MatchNears.walk (P : wainloadlaw07_MatchNears.Pure) (a0 : Option Addr) (len0 cap0 : Nat) (z0 : List Int) (a1 : Int) (w : World) (w0 : (a0 = none ∧ len0 = 0 ∧ cap0 = 0 ∧ z0 = []) ∨ ∃ x, a0 = some x ∧ len0 ≤ cap0 ∧ cap0 ≤ maxLen ∧ z0.length = cap0 ∧ (∀ i, i < z0.length → w.cell? (x.add i) = some (.int .u8 (z0.getD i 0))) ∧ ∀ n ∈ z0, (Lit.int .u8 n).wf = true) (y0 : len0 * 1 ≤ 140737488351232) (w1 : (Lit.int .i64 a1).wf = true) :
    Calls Try.prog 6 #[.slice a0 len0 cap0, .int .i64 a1] w fun e w' => e = .returned (.bool true) ∧ Below w.heap.size w w' := by
  obtain ⟨l0, rfl, hr0, hm0, hw0, hc0⟩ := ReadsInt.ofRowC w0
  obtain ⟨k, h⟩ := P l0 a1 hm0 y0 hw0 w1
  refine (wainloadlaw07_MatchNears.calls k _ _ l0 a1 true w (Kd.C_of_reads (d := (0 : Int)) (h1 := fun _ => rfl) hr0) hc0 h).mono ?_
  rintro e w' ⟨rfl, hd⟩
  exact ⟨rfl, hd⟩

end Go.Proofs.Ytohkjiellcikhaa.P07
