-- Printed for this claim by a program over the kit's print; some callees are given by texts of mine. Lean checks it.
import Derived.Test.YtohkjiellcikhaaP07x0
namespace Go.Proofs.Ytohkjiellcikhaa.P07
open Go.RowKit Go.Proofs.YtohkjiellcikhaaW.PrintWords Go.Proofs.YtohkjiellcikhaaW.PrintLast Go.Proofs.YtohkjiellcikhaaW.PrintMore
attribute [local go_sem] max2_int min2_int max_two min_two max_three min_three max_four min_four   -- for this text's walks alone
set_option linter.unusedVariables false
set_option linter.unusedSimpArgs false

/-! ### wainloadref07_Tell: function 15 -/
mutual
def wainloadref07_Tell.l0 : Nat → List (S32) → List Int → Int → Option (List Int)
  | 0, _, _, _ => none
  | k + 1, x0, x3, x4 => if x4 < (x0.length : Int) then (if 0 ≤ x4 then (if ((rd_T32 x0 x4).f1) = 0 then (if x3.length < 140737488355328 then (wainloadref07_Tell.j1 k x0 (x3 ++ [(rd_T32 x0 x4).f0]) x4) else (none)) else (wainloadref07_Tell.j1 k x0 x3 x4)) else (none)) else (some x3)
def wainloadref07_Tell.j1 : Nat → List (S32) → List Int → Int → Option (List Int)
  | 0, _, _, _ => none
  | k + 1, x0, x3, x4 => wainloadref07_Tell.l1 k x0 x3 x4 0
def wainloadref07_Tell.l1 : Nat → List (S32) → List Int → Int → Int → Option (List Int)
  | 0, _, _, _, _ => none
  | k + 1, x0, x3, x4, x5 => if 0 ≤ x4 then (if x4 < (x0.length : Int) then (if x5 < ((rd_T32 x0 x4).f1) then (if 0 ≤ (wrap64 ((x3.length : Int) - ((rd_T32 x0 x4).f2))) then (if (wrap64 ((x3.length : Int) - ((rd_T32 x0 x4).f2))) < (x3.length : Int) then (if x3.length < 140737488355328 then (wainloadref07_Tell.l1 k x0 (x3 ++ [rd x3 (wrap64 ((x3.length : Int) - ((rd_T32 x0 x4).f2)))]) x4 (wrap64 (x5 + 1))) else (none)) else (none)) else (none)) else (wainloadref07_Tell.l0 k x0 x3 (wrap64 (x4 + 1)))) else (none)) else (none)
end
def wainloadref07_Tell.f (k : Nat) (l0 : List (S32)) : Option (List Int) := wainloadref07_Tell.l0 k l0 ([] : List Int) 0
theorem wainloadref07_Tell.mono_l : ∀ k, (∀ y0 y1 y2, LeO (wainloadref07_Tell.l0 k y0 y1 y2) (wainloadref07_Tell.l0 (k + 1) y0 y1 y2)) ∧ (∀ y0 y1 y2, LeO (wainloadref07_Tell.j1 k y0 y1 y2) (wainloadref07_Tell.j1 (k + 1) y0 y1 y2)) ∧ (∀ y0 y1 y2 y3, LeO (wainloadref07_Tell.l1 k y0 y1 y2 y3) (wainloadref07_Tell.l1 (k + 1) y0 y1 y2 y3))
  | 0 => ⟨fun _ _ _ r h => by simp [wainloadref07_Tell.l0] at h, fun _ _ _ r h => by simp [wainloadref07_Tell.j1] at h, fun _ _ _ _ r h => by simp [wainloadref07_Tell.l1] at h⟩
  | k + 1 => by
    obtain ⟨ih0, ih1, ih2⟩ := wainloadref07_Tell.mono_l k
    refine ⟨?_, ?_, ?_⟩
    · intro y0 y1 y2
      unfold wainloadref07_Tell.l0
      repeat' first
      | (with_reducible exact ih0 _ _ _)
      | (with_reducible exact ih1 _ _ _)
      | (with_reducible exact ih2 _ _ _ _)
      | (with_reducible exact LeO.refl _)
      | (with_reducible exact LeO.none _)
      | (with_reducible refine LeO.ite ?_ ?_)
      | (with_reducible refine LeO.bind ?_ (fun _ => ?_))
      | exact ih0 _ _ _
      | exact ih1 _ _ _
      | exact ih2 _ _ _ _
      | exact LeO.none _
      | refine LeO.ite ?_ ?_
      | refine LeO.bind ?_ (fun _ => ?_)
    · intro y0 y1 y2
      unfold wainloadref07_Tell.j1
      repeat' first
      | (with_reducible exact ih0 _ _ _)
      | (with_reducible exact ih1 _ _ _)
      | (with_reducible exact ih2 _ _ _ _)
      | (with_reducible exact LeO.refl _)
      | (with_reducible exact LeO.none _)
      | (with_reducible refine LeO.ite ?_ ?_)
      | (with_reducible refine LeO.bind ?_ (fun _ => ?_))
      | exact ih0 _ _ _
      | exact ih1 _ _ _
      | exact ih2 _ _ _ _
      | exact LeO.none _
      | refine LeO.ite ?_ ?_
      | refine LeO.bind ?_ (fun _ => ?_)
    · intro y0 y1 y2 y3
      unfold wainloadref07_Tell.l1
      repeat' first
      | (with_reducible exact ih0 _ _ _)
      | (with_reducible exact ih1 _ _ _)
      | (with_reducible exact ih2 _ _ _ _)
      | (with_reducible exact LeO.refl _)
      | (with_reducible exact LeO.none _)
      | (with_reducible refine LeO.ite ?_ ?_)
      | (with_reducible refine LeO.bind ?_ (fun _ => ?_))
      | exact ih0 _ _ _
      | exact ih1 _ _ _
      | exact ih2 _ _ _ _
      | exact LeO.none _
      | refine LeO.ite ?_ ?_
      | refine LeO.bind ?_ (fun _ => ?_)
theorem wainloadref07_Tell.mono : ∀ a0 k, LeO (wainloadref07_Tell.f k a0) (wainloadref07_Tell.f (k + 1) a0) := by
  intro a0 k
  obtain ⟨ih0, ih1, ih2⟩ := wainloadref07_Tell.mono_l k
  unfold wainloadref07_Tell.f
  repeat' first
      | (with_reducible exact ih0 _ _ _)
      | (with_reducible exact ih1 _ _ _)
      | (with_reducible exact ih2 _ _ _ _)
      | (with_reducible exact LeO.refl _)
      | (with_reducible exact LeO.none _)
      | (with_reducible refine LeO.ite ?_ ?_)
      | (with_reducible refine LeO.bind ?_ (fun _ => ?_))
      | exact ih0 _ _ _
      | exact ih1 _ _ _
      | exact ih2 _ _ _ _
      | exact LeO.none _
      | refine LeO.ite ?_ ?_
      | refine LeO.bind ?_ (fun _ => ?_)
set_option maxHeartbeats 8000000 in
set_option maxRecDepth 100000 in
theorem wainloadref07_Tell.calls (k : Nat) (A0 : Option Addr) (c0 : Nat) (l0 : List (S32)) (r : List Int) (w : World) (hr0 : Kd.C k32 w A0 l0.length l0) (hc0 : l0.length ≤ c0) (h : wainloadref07_Tell.f k l0 = some r) :
    Calls Try.prog 15 #[.slice A0 l0.length c0] w fun e w' => ∃ v0_ : Value, e = .returned (v0_) ∧ Kd.R (Kd.int .u8) 5 w' w.heap.size (fun _ => True) v0_ r ∧ Below w.heap.size w w' := by
  have HR0 := Aside0.mk hr0
  have HC0 := Aside0.mk hc0
  clear hr0 hc0
  have HB := Aside0.mk (Below.refl w.heap.size w)
  have H : (wainloadref07_Tell.l0 k l0 ([] : List Int) 0) = some r := h
  clear h
  have H' := Aside0.mk H
  clear H
  go_enter Try.func15, Try.ntmps15
  go_wp2
  go_loopg [3, 4] k (fun kq v3 v4 w' => ∃ (x3_1 : List Int) (x4_1 : Int), v4 = .int .i64 x4_1 ∧ Aside0 (wainloadref07_Tell.l0 kq l0 x3_1 x4_1 = some r) ∧ Aside0 (kq ≤ k) ∧ Aside0 (Kd.R (Kd.int .u8) 5 w' w.heap.size (fun _ => True) v3 x3_1) ∧ Aside0 (Below w.heap.size w w'))
  case atStart => exact ⟨(([] : List Int)), (0), (by first | rfl | (simp; done) | (simp [*]; done)), H', ⟨Nat.le_refl _⟩, ⟨by first | exact Kd.R_nil _ _ _ _ _ | exact Kd.N_nil _ _ _ _ _ | exact Kd.V_nil _ _ _ _ _ | exact Kd.Q_nil _ _ _ _ _ | exact Kd.S_nil _ _ _ _ _⟩, ⟨by repeat (first | (with_reducible first | exact HB.out | apply below_alloc | apply pw_below_drewN | apply below_drew1) | exact HB.out)⟩⟩
  case round =>
    clear H'
    try clear c1
    obtain ⟨x3_1, x4_1, rfl, HA, HK1, HO_3, HB⟩ := hrel
    cases gk with
    | zero => exact absurd HA.out (by simp [wainloadref07_Tell.l0])
    | succ k1 =>
      have H := HA.out
      clear HA
      simp only [wainloadref07_Tell.l0] at H
      by_cases c2 : x4_1 < (l0.length : Int)
      · rw [if_pos c2] at H
        have c2b0 : decide (x4_1 < (l0.length : Int)) = true := decide_eq_true c2
        clear c2
        by_cases c3 : 0 ≤ x4_1
        · rw [if_pos c3] at H
          have c3b0 : decide (0 ≤ x4_1) = true := decide_eq_true c3
          clear c3
          have HC4 := Aside0.mk H
          clear H
          have p118 : 0 ≤ (x4_1 : Int) := of_decide_eq_true (by first | (with_reducible assumption) | assumption)
          have q118 : x4_1 < (l0.length : Int) := of_decide_eq_true (by first | (with_reducible assumption) | assumption)
          obtain ⟨ad118, e118, hx118_0, hx118_1, hx118_2⟩ := at_T32 HR0.out x4_1 p118 q118
          cases e118
          replace hx118_0 := (HB.out.cell (World.block_lt_of_cell? w _ hx118_0)).trans hx118_0
          replace hx118_1 := (HB.out.cell (World.block_lt_of_cell? w _ hx118_1)).trans hx118_1
          replace hx118_2 := (HB.out.cell (World.block_lt_of_cell? w _ hx118_2)).trans hx118_2
          replace p118 := eq_true p118
          replace q118 := eq_true q118
          go_upto_if 17 with (fail)
          go_cut [3] (fun v3 wc => ∃ (kq : Nat) (x3_3 : List Int), Aside0 (wainloadref07_Tell.j1 kq l0 x3_3 x4_1 = some r) ∧ Aside0 (kq ≤ k1) ∧ Aside0 (Kd.R (Kd.int .u8) 5 wc w.heap.size (fun _ => True) v3 x3_3) ∧ Aside0 (Below w.heap.size w wc))
          case first =>
            have H := HC4.out
            clear HC4
            by_cases c5 : ((rd_T32 l0 x4_1).f1) = 0
            · rw [if_pos c5] at H
              have c5b0 : (((rd_T32 l0 x4_1).f1) == 0) = true := beq_iff_eq.mpr c5
              have c5b1 : (((rd_T32 l0 x4_1).f1) != 0) = false := bne_eq_false_iff_eq.mpr c5
              clear c5
              (first | rw [c5b0] | (simp only [i64_w, i32_w]; rw [c5b0]) | skip)
              by_cases c6 : x3_1.length < 140737488355328
              · rw [if_pos c6] at H
                have LMc6 := Aside0.mk c6
                clear c6
                obtain ⟨y120, hy120⟩ : ∃ y_ : List Int, y_ = (x3_1 ++ [(rd_T32 l0 x4_1).f0]) := ⟨_, rfl⟩
                replace H : (wainloadref07_Tell.j1 k1 l0 y120 x4_1) = some r := by first | (rw [hy120]; with_reducible exact H) | (have H2_ := (Option.bind_some _ _).symm.trans H; rw [hy120]; with_reducible exact H2_) | (have H2_ := (Option.bind_some _ _).symm.trans H; with_reducible exact H2_) | with_reducible exact H | (rw [hy120]; exact H) | exact H
                have Ny120 := Aside0.mk hy120
                clear hy120
                have H' := Aside0.mk H
                clear H
                have p119 : 0 ≤ (x4_1 : Int) := of_decide_eq_true (by first | (with_reducible assumption) | assumption)
                have q119 : x4_1 < (l0.length : Int) := of_decide_eq_true (by first | (with_reducible assumption) | assumption)
                obtain ⟨ad119, e119, hx119_0, hx119_1, hx119_2⟩ := at_T32 HR0.out x4_1 p119 q119
                obtain rfl : ad118 = ad119 := (by injection e119)
                replace hx119_0 := (HB.out.cell (World.block_lt_of_cell? w _ hx119_0)).trans hx119_0
                replace hx119_1 := (HB.out.cell (World.block_lt_of_cell? w _ hx119_1)).trans hx119_1
                replace hx119_2 := (HB.out.cell (World.block_lt_of_cell? w _ hx119_2)).trans hx119_2
                replace p119 := eq_true p119
                replace q119 := eq_true q119
                go_wp2_with (first | ((with_reducible refine gate_builtin (b := .append) (xs := #[.tmp 18, .tmp 24]) rfl ?_); at_builtin; refine Kd.R_append (Kd.int .u8) (w0 := w) w.heap.size rfl (.tmp 18) (.tmp 24) 24 5 (.int .u8 0) 1 rfl Try.underlying24 info5 rfl (by decide) (by omega) u3 x3_1 ((rd_T32 l0 x4_1).f0) [.int .u8 ((rd_T32 l0 x4_1).f0)] (fun _ => True) (fun _ => False) rfl rfl ?aP (fun _ hk => hk.elim) ?aF ?aO ?aB ?aS ?aL ?_; (case aP => exact rfl); (case aB => exact (by repeat (first | (with_reducible first | exact HB.out | apply below_alloc | apply pw_below_drewN | apply below_drew1) | exact HB.out))); (case aF => exact (fun _ _ => trivial)); (case aO => exact (by (with_reducible repeat (first | apply Kd.R_alloc | apply Kd.R_drewN | apply Kd.R_drew)); exact HO_3.out)); (case aS => exact (below_size (by repeat (first | (with_reducible first | exact HB.out | apply below_alloc | apply pw_below_drewN | apply below_drew1) | exact HB.out)))); (case aL => have := LMc6.out; omega); intro v121 w7 ho hb hg hat; rw [← Ny120.out] at ho; have n0_ := Aside0.mk (hb); have n1_ := Aside0.mk (ho); clear HB; clear HO_3; have HB := n0_; have HO122 := n1_; clear n0_ n1_; clear ho hb hg hat))
                go_meet
                case rel => exact ⟨_, (y120), H', ⟨by have := HK1.out; first | omega | exact Nat.le_refl _⟩, ⟨by (with_reducible repeat (first | apply Kd.R_alloc | apply Kd.R_drewN | apply Kd.R_drew)); exact HO122.out⟩, ⟨by repeat (first | (with_reducible first | exact HB.out | apply below_alloc | apply pw_below_drewN | apply below_drew1) | exact HB.out)⟩⟩
              · rw [if_neg c6] at H
                exact absurd H (by simp)
            · rw [if_neg c5] at H
              have c5b0 : (((rd_T32 l0 x4_1).f1) == 0) = false := beq_eq_false_iff_ne.mpr c5
              have c5b1 : (((rd_T32 l0 x4_1).f1) != 0) = true := bne_iff_ne.mpr c5
              (first | rw [c5b0] | (simp only [i64_w, i32_w]; rw [c5b0]) | skip)
              have H' := Aside0.mk H
              clear H
              go_wp2
              go_meet
              case rel => exact ⟨_, (x3_1), H', ⟨by have := HK1.out; first | omega | exact Nat.le_refl _⟩, ⟨by (with_reducible repeat (first | apply Kd.R_alloc | apply Kd.R_drewN | apply Kd.R_drew)); exact HO_3.out⟩, ⟨by repeat (first | (with_reducible first | exact HB.out | apply below_alloc | apply pw_below_drewN | apply below_drew1) | exact HB.out)⟩⟩
          case rest =>
            clear HC4
            try clear c1
            try clear p1
            try clear q1
            try clear hx1
            try clear c2
            try clear c2b0
            try clear p2
            try clear c3
            try clear c3b0
            try clear c5
            try clear c5b0
            try clear c5b1
            try clear c6
            try clear hx118_0
            try clear hx118_1
            try clear hx118_2
            try clear hx119_0
            try clear hx119_1
            try clear hx119_2
            try clear p118
            try clear p119
            try clear q118
            try clear q119
            obtain ⟨kq, x3_3, HA, HJ3, HO_3, HB⟩ := hcut
            cases kq with
            | zero => exact absurd HA.out (by simp [wainloadref07_Tell.j1])
            | succ kj3 =>
              have H := HA.out
              clear HA
              simp only [wainloadref07_Tell.j1] at H
              have H' := Aside0.mk H
              clear H
              go_wp2
              go_loopg [3, 5] kj3 (fun kq v3 v5 w' => ∃ (x3_3 : List Int) (x5_3 : Int), v5 = .int .i64 x5_3 ∧ Aside0 (wainloadref07_Tell.l1 kq l0 x3_3 x4_1 x5_3 = some r) ∧ Aside0 (kq ≤ kj3) ∧ Aside0 (Kd.R (Kd.int .u8) 5 w' w.heap.size (fun _ => True) v3 x3_3) ∧ Aside0 (Below w.heap.size w w'))
              case atStart => exact ⟨(x3_3), (0), (by first | rfl | (simp; done) | (simp [*]; done)), H', ⟨Nat.le_refl _⟩, ⟨by (with_reducible repeat (first | apply Kd.R_alloc | apply Kd.R_drewN | apply Kd.R_drew)); exact HO_3.out⟩, ⟨by repeat (first | (with_reducible first | exact HB.out | apply below_alloc | apply pw_below_drewN | apply below_drew1) | exact HB.out)⟩⟩
              case round =>
                clear H'
                try clear c1
                try clear p1
                try clear q1
                try clear hx1
                try clear c2
                try clear c2b0
                try clear p2
                try clear c3
                try clear c3b0
                try clear c5
                try clear c5b0
                try clear c5b1
                try clear c6
                try clear hx118_0
                try clear hx118_1
                try clear hx118_2
                try clear hx119_0
                try clear hx119_1
                try clear hx119_2
                try clear p1
                try clear p118
                try clear p119
                try clear p2
                try clear q1
                try clear q118
                try clear q119
                obtain ⟨x3_3, x5_3, rfl, HA, HK3, HO_3, HB⟩ := hrel
                cases gk with
                | zero => exact absurd HA.out (by simp [wainloadref07_Tell.l1])
                | succ k3 =>
                  have H := HA.out
                  clear HA
                  simp only [wainloadref07_Tell.l1] at H
                  by_cases c8 : 0 ≤ x4_1
                  · rw [if_pos c8] at H
                    have c8b0 : decide (0 ≤ x4_1) = true := decide_eq_true c8
                    clear c8
                    by_cases c9 : x4_1 < (l0.length : Int)
                    · rw [if_pos c9] at H
                      have c9b0 : decide (x4_1 < (l0.length : Int)) = true := decide_eq_true c9
                      clear c9
                      by_cases c10 : x5_3 < ((rd_T32 l0 x4_1).f1)
                      · rw [if_pos c10] at H
                        have c10b0 : decide (x5_3 < ((rd_T32 l0 x4_1).f1)) = true := decide_eq_true c10
                        clear c10
                        obtain ⟨ji11, hji11⟩ : ∃ j_ : Int, (wrap64 ((x3_3.length : Int) - ((rd_T32 l0 x4_1).f2))) = j_ := ⟨_, rfl⟩
                        replace H : (if 0 ≤ (ji11) then (if (ji11) < (x3_3.length : Int) then (if x3_3.length < 140737488355328 then (wainloadref07_Tell.l1 k3 l0 (x3_3 ++ [rd x3_3 (ji11)]) x4_1 (wrap64 (x5_3 + 1))) else (none)) else (none)) else (none)) = some r := by first | (rw [hji11] at H; exact H) | (simp only [hji11] at H ⊢; exact H)
                        have hji11w : (IntKind.i64.wrap ((x3_3.length : Int) - ((rd_T32 l0 x4_1).f2))) = ji11 := (i64_w _).trans hji11
                        by_cases c12 : 0 ≤ (ji11)
                        · rw [if_pos c12] at H
                          have c12b0 : decide (0 ≤ (ji11)) = true := decide_eq_true c12
                          clear c12
                          by_cases c13 : (ji11) < (x3_3.length : Int)
                          · rw [if_pos c13] at H
                            have c13b0 : decide ((ji11) < (x3_3.length : Int)) = true := decide_eq_true c13
                            clear c13
                            by_cases c14 : x3_3.length < 140737488355328
                            · rw [if_pos c14] at H
                              have LMc14 := Aside0.mk c14
                              clear c14
                              obtain ⟨y126, hy126⟩ : ∃ y_ : List Int, y_ = (x3_3 ++ [rd x3_3 (ji11)]) := ⟨_, rfl⟩
                              replace H : (wainloadref07_Tell.l1 k3 l0 y126 x4_1 (wrap64 (x5_3 + 1))) = some r := by first | (rw [hy126]; with_reducible exact H) | (have H2_ := (Option.bind_some _ _).symm.trans H; rw [hy126]; with_reducible exact H2_) | (have H2_ := (Option.bind_some _ _).symm.trans H; with_reducible exact H2_) | with_reducible exact H | (rw [hy126]; exact H) | exact H
                              have Ny126 := Aside0.mk hy126
                              clear hy126
                              have H' := Aside0.mk H
                              clear H
                              have p123 : 0 ≤ (x4_1 : Int) := of_decide_eq_true (by first | (with_reducible assumption) | assumption)
                              have q123 : x4_1 < (l0.length : Int) := of_decide_eq_true (by first | (with_reducible assumption) | assumption)
                              obtain ⟨ad123, e123, hx123_0, hx123_1, hx123_2⟩ := at_T32 HR0.out x4_1 p123 q123
                              obtain rfl : ad118 = ad123 := (by injection e123)
                              replace hx123_0 := (HB.out.cell (World.block_lt_of_cell? w _ hx123_0)).trans hx123_0
                              replace hx123_1 := (HB.out.cell (World.block_lt_of_cell? w _ hx123_1)).trans hx123_1
                              replace hx123_2 := (HB.out.cell (World.block_lt_of_cell? w _ hx123_2)).trans hx123_2
                              replace p123 := eq_true p123
                              replace q123 := eq_true q123
                              obtain ⟨Ao15, co15, eo15⟩ := Kd.R_slice HO_3.out
                              subst eo15
                              have p124 : 0 ≤ (x4_1 : Int) := of_decide_eq_true (by first | (with_reducible assumption) | assumption)
                              have q124 : x4_1 < (l0.length : Int) := of_decide_eq_true (by first | (with_reducible assumption) | assumption)
                              obtain ⟨ad124, e124, hx124_0, hx124_1, hx124_2⟩ := at_T32 HR0.out x4_1 p124 q124
                              obtain rfl : ad118 = ad124 := (by injection e124)
                              replace hx124_0 := (HB.out.cell (World.block_lt_of_cell? w _ hx124_0)).trans hx124_0
                              replace hx124_1 := (HB.out.cell (World.block_lt_of_cell? w _ hx124_1)).trans hx124_1
                              replace hx124_2 := (HB.out.cell (World.block_lt_of_cell? w _ hx124_2)).trans hx124_2
                              replace p124 := eq_true p124
                              replace q124 := eq_true q124
                              have p125 : 0 ≤ ((ji11) : Int) := of_decide_eq_true (by first | (with_reducible assumption) | assumption)
                              have q125 : (ji11) < (x3_3.length : Int) := of_decide_eq_true (by first | (with_reducible assumption) | assumption)
                              obtain ⟨ad125, e125, hx125_0⟩ := Kd.at_int (Kd.R_reads' HO_3.out).2.2 (ji11) p125 q125
                              cases e125
                              replace p125 := eq_true p125
                              replace q125 := eq_true q125
                              go_wp2_with (first | ((with_reducible refine gate_builtin (b := .append) (xs := #[.tmp 35, .tmp 47]) rfl ?_); at_builtin; refine Kd.R_append (Kd.int .u8) (w0 := w) w.heap.size rfl (.tmp 35) (.tmp 47) 24 5 (.int .u8 0) 1 rfl Try.underlying24 info5 rfl (by decide) (by omega) (.slice (some ad125) x3_3.length co15) x3_3 (rd x3_3 (ji11)) [.int .u8 (rd x3_3 (ji11))] (fun _ => True) (fun _ => False) rfl rfl ?aP (fun _ hk => hk.elim) ?aF ?aO ?aB ?aS ?aL ?_; (case aP => exact rfl); (case aB => exact (by repeat (first | (with_reducible first | exact HB.out | apply below_alloc | apply pw_below_drewN | apply below_drew1) | exact HB.out))); (case aF => exact (fun _ _ => trivial)); (case aO => exact (by (with_reducible repeat (first | apply Kd.R_alloc | apply Kd.R_drewN | apply Kd.R_drew)); exact HO_3.out)); (case aS => exact (below_size (by repeat (first | (with_reducible first | exact HB.out | apply below_alloc | apply pw_below_drewN | apply below_drew1) | exact HB.out)))); (case aL => have := LMc14.out; omega); intro v127 w16 ho hb hg hat; rw [← Ny126.out] at ho; have n0_ := Aside0.mk (hb); have n1_ := Aside0.mk (ho); clear HB; clear HO_3; have HB := n0_; have HO128 := n1_; clear n0_ n1_; clear ho hb hg hat))
                              go_roundg k3
                              case measure => have := HK1.out; have := HJ3.out; have := HK3.out; omega
                              case rel => exact ⟨(y126), (wrap64 (x5_3 + 1)), (by first | rfl | (simp; done) | (simp [*]; done)), H', ⟨by have := HK1.out; have := HJ3.out; have := HK3.out; omega⟩, ⟨by (with_reducible repeat (first | apply Kd.R_alloc | apply Kd.R_drewN | apply Kd.R_drew)); exact HO128.out⟩, ⟨by repeat (first | (with_reducible first | exact HB.out | apply below_alloc | apply pw_below_drewN | apply below_drew1) | exact HB.out)⟩⟩
                            · rw [if_neg c14] at H
                              exact absurd H (by simp)
                          · rw [if_neg c13] at H
                            exact absurd H (by simp)
                        · rw [if_neg c12] at H
                          exact absurd H (by simp)
                      · rw [if_neg c10] at H
                        have c10b0 : decide (x5_3 < ((rd_T32 l0 x4_1).f1)) = false := decide_eq_false c10
                        clear c10
                        have H' := Aside0.mk H
                        clear H
                        have p123 : 0 ≤ (x4_1 : Int) := of_decide_eq_true (by first | (with_reducible assumption) | assumption)
                        have q123 : x4_1 < (l0.length : Int) := of_decide_eq_true (by first | (with_reducible assumption) | assumption)
                        obtain ⟨ad123, e123, hx123_0, hx123_1, hx123_2⟩ := at_T32 HR0.out x4_1 p123 q123
                        obtain rfl : ad118 = ad123 := (by injection e123)
                        replace hx123_0 := (HB.out.cell (World.block_lt_of_cell? w _ hx123_0)).trans hx123_0
                        replace hx123_1 := (HB.out.cell (World.block_lt_of_cell? w _ hx123_1)).trans hx123_1
                        replace hx123_2 := (HB.out.cell (World.block_lt_of_cell? w _ hx123_2)).trans hx123_2
                        replace p123 := eq_true p123
                        replace q123 := eq_true q123
                        go_wp2
                        go_roundg k3
                        case measure => have := HK1.out; have := HJ3.out; have := HK3.out; omega
                        case rel => exact ⟨(x3_3), (wrap64 (x4_1 + 1)), (by first | rfl | (simp; done) | (simp [*]; done)), H', ⟨by have := HK1.out; have := HJ3.out; have := HK3.out; omega⟩, ⟨by (with_reducible repeat (first | apply Kd.R_alloc | apply Kd.R_drewN | apply Kd.R_drew)); exact HO_3.out⟩, ⟨by repeat (first | (with_reducible first | exact HB.out | apply below_alloc | apply pw_below_drewN | apply below_drew1) | exact HB.out)⟩⟩
                    · rw [if_neg c9] at H
                      exact absurd H (by simp)
                  · rw [if_neg c8] at H
                    exact absurd H (by simp)
        · rw [if_neg c3] at H
          exact absurd H (by simp)
      · rw [if_neg c2] at H
        have c2b0 : decide (x4_1 < (l0.length : Int)) = false := decide_eq_false c2
        clear c2
        obtain rfl := Option.some.inj H
        go_wp2
        go_ret
        exact ⟨_, by first | rfl | (simp [errW_none, errW_some] <;> rfl) | (simp [*, errW_none, errW_some] <;> rfl), by (with_reducible repeat (first | apply Kd.R_alloc | apply Kd.R_drewN | apply Kd.R_drew)); exact HO_3.out, by repeat (first | (with_reducible first | exact HB.out | apply below_alloc | apply pw_below_drewN | apply below_drew1) | exact HB.out)⟩

end Go.Proofs.Ytohkjiellcikhaa.P07
