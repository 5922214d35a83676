-- Printed for this claim by a program over the kit's print; some callees are given by texts of mine. Lean checks it.
import Derived.Test.YtohkjiellcikhaaP07x0
namespace Go.Proofs.Ytohkjiellcikhaa.P07
open Go.RowKit Go.Proofs.YtohkjiellcikhaaW.PrintWords Go.Proofs.YtohkjiellcikhaaW.PrintLast Go.Proofs.YtohkjiellcikhaaW.PrintMore
attribute [local go_sem] max2_int min2_int max_two min_two max_three min_three max_four min_four   -- for this text's walks alone
set_option linter.unusedVariables false
set_option linter.unusedSimpArgs false

/-! ### wainloadref07_Right: function 13 -/
mutual
def wainloadref07_Right.l0 : Nat → List (S32) → Int → Int → Option (Bool)
  | 0, _, _, _ => none
  | k + 1, x0, x3, x4 => if x4 < (x0.length : Int) then (if 0 ≤ x4 then (if ((rd_T32 x0 x4).f1) = 0 then (wainloadref07_Right.j1 k x0 x3 x4 (((rd_T32 x0 x4).f2) == 0) ((rd_T32 x0 x4).f0) ((rd_T32 x0 x4).f1) ((rd_T32 x0 x4).f2)) else (wainloadref07_Right.j1 k x0 x3 x4 false ((rd_T32 x0 x4).f0) ((rd_T32 x0 x4).f1) ((rd_T32 x0 x4).f2))) else (none)) else (some true)
def wainloadref07_Right.j1 : Nat → List (S32) → Int → Int → Bool → Int → Int → Int → Option (Bool)
  | 0, _, _, _, _, _, _, _ => none
  | k + 1, x0, x3, x4, x23, x118000, x118001, x118002 => if x23 = true then (wainloadref07_Right.l0 k x0 (wrap64 (x3 + 1)) (wrap64 (x4 + 1))) else (if x118000 = 0 then (if x118001 < 3 then (some false) else (if x118001 > 258 then (some false) else (if x118002 < 1 then (some false) else (if x118002 > 32768 then (some false) else (if x118002 > x3 then (some false) else (wainloadref07_Right.l0 k x0 (wrap64 (x3 + x118001)) (wrap64 (x4 + 1)))))))) else (some false))
end
def wainloadref07_Right.f (k : Nat) (l0 : List (S32)) : Option (Bool) := wainloadref07_Right.l0 k l0 0 0
theorem wainloadref07_Right.mono_l : ∀ k, (∀ y0 y1 y2, LeO (wainloadref07_Right.l0 k y0 y1 y2) (wainloadref07_Right.l0 (k + 1) y0 y1 y2)) ∧ (∀ y0 y1 y2 y3 y4 y5 y6, LeO (wainloadref07_Right.j1 k y0 y1 y2 y3 y4 y5 y6) (wainloadref07_Right.j1 (k + 1) y0 y1 y2 y3 y4 y5 y6))
  | 0 => ⟨fun _ _ _ r h => by simp [wainloadref07_Right.l0] at h, fun _ _ _ _ _ _ _ r h => by simp [wainloadref07_Right.j1] at h⟩
  | k + 1 => by
    obtain ⟨ih0, ih1⟩ := wainloadref07_Right.mono_l k
    refine ⟨?_, ?_⟩
    · intro y0 y1 y2
      unfold wainloadref07_Right.l0
      repeat' first
      | (with_reducible exact ih0 _ _ _)
      | (with_reducible exact ih1 _ _ _ _ _ _ _)
      | (with_reducible exact LeO.refl _)
      | (with_reducible exact LeO.none _)
      | (with_reducible refine LeO.ite ?_ ?_)
      | (with_reducible refine LeO.bind ?_ (fun _ => ?_))
      | exact ih0 _ _ _
      | exact ih1 _ _ _ _ _ _ _
      | exact LeO.none _
      | refine LeO.ite ?_ ?_
      | refine LeO.bind ?_ (fun _ => ?_)
    · intro y0 y1 y2 y3 y4 y5 y6
      unfold wainloadref07_Right.j1
      repeat' first
      | (with_reducible exact ih0 _ _ _)
      | (with_reducible exact ih1 _ _ _ _ _ _ _)
      | (with_reducible exact LeO.refl _)
      | (with_reducible exact LeO.none _)
      | (with_reducible refine LeO.ite ?_ ?_)
      | (with_reducible refine LeO.bind ?_ (fun _ => ?_))
      | exact ih0 _ _ _
      | exact ih1 _ _ _ _ _ _ _
      | exact LeO.none _
      | refine LeO.ite ?_ ?_
      | refine LeO.bind ?_ (fun _ => ?_)
theorem wainloadref07_Right.mono : ∀ a0 k, LeO (wainloadref07_Right.f k a0) (wainloadref07_Right.f (k + 1) a0) := by
  intro a0 k
  obtain ⟨ih0, ih1⟩ := wainloadref07_Right.mono_l k
  unfold wainloadref07_Right.f
  repeat' first
      | (with_reducible exact ih0 _ _ _)
      | (with_reducible exact ih1 _ _ _ _ _ _ _)
      | (with_reducible exact LeO.refl _)
      | (with_reducible exact LeO.none _)
      | (with_reducible refine LeO.ite ?_ ?_)
      | (with_reducible refine LeO.bind ?_ (fun _ => ?_))
      | exact ih0 _ _ _
      | exact ih1 _ _ _ _ _ _ _
      | exact LeO.none _
      | refine LeO.ite ?_ ?_
      | refine LeO.bind ?_ (fun _ => ?_)
set_option maxHeartbeats 8000000 in
set_option maxRecDepth 100000 in
theorem wainloadref07_Right.calls (k : Nat) (A0 : Option Addr) (c0 : Nat) (l0 : List (S32)) (r : Bool) (w : World) (hr0 : Kd.C k32 w A0 l0.length l0) (hc0 : l0.length ≤ c0) (h : wainloadref07_Right.f k l0 = some r) :
    Calls Try.prog 13 #[.slice A0 l0.length c0] w fun e w' => e = .returned (.bool r) ∧ Below w.heap.size w w' := by
  have hu32 := Try.underlying32
  have HR0 := Aside0.mk hr0
  have HC0 := Aside0.mk hc0
  clear hr0 hc0
  have HB := Aside0.mk (Below.refl w.heap.size w)
  have H : (wainloadref07_Right.l0 k l0 0 0) = some r := h
  clear h
  have H' := Aside0.mk H
  clear H
  go_enter Try.func13, Try.ntmps13
  go_wp2
  go_loopg [3, 4] k (fun kq v3 v4 w' => ∃ (x3_1 : Int) (x4_1 : Int), v3 = .int .i64 x3_1 ∧ v4 = .int .i64 x4_1 ∧ Aside0 (wainloadref07_Right.l0 kq l0 x3_1 x4_1 = some r) ∧ Aside0 (kq ≤ k) ∧ Aside0 (Below w.heap.size w w'))
  case atStart => exact ⟨(0), (0), (by first | rfl | (simp; done) | (simp [*]; done)), (by first | rfl | (simp; done) | (simp [*]; done)), H', ⟨Nat.le_refl _⟩, ⟨by repeat (first | (with_reducible first | exact HB.out | apply below_alloc | apply pw_below_drewN | apply below_drew1) | exact HB.out)⟩⟩
  case round =>
    clear H'
    try clear c1
    obtain ⟨x3_1, x4_1, rfl, rfl, HA, HK1, HB⟩ := hrel
    cases gk with
    | zero => exact absurd HA.out (by simp [wainloadref07_Right.l0])
    | succ k1 =>
      have H := HA.out
      clear HA
      simp only [wainloadref07_Right.l0] at H
      by_cases c2 : x4_1 < (l0.length : Int)
      · rw [if_pos c2] at H
        have c2b0 : decide (x4_1 < (l0.length : Int)) = true := decide_eq_true c2
        clear c2
        by_cases c3 : 0 ≤ x4_1
        · rw [if_pos c3] at H
          have c3b0 : decide (0 ≤ x4_1) = true := decide_eq_true c3
          clear c3
          have HC4 := Aside0.mk H
          clear H
          have p116 : 0 ≤ (x4_1 : Int) := of_decide_eq_true (by first | (with_reducible assumption) | assumption)
          have q116 : x4_1 < (l0.length : Int) := of_decide_eq_true (by first | (with_reducible assumption) | assumption)
          obtain ⟨ad116, e116, hx116_0, hx116_1, hx116_2⟩ := at_T32 HR0.out x4_1 p116 q116
          cases e116
          replace hx116_0 := (HB.out.cell (World.block_lt_of_cell? w _ hx116_0)).trans hx116_0
          replace hx116_1 := (HB.out.cell (World.block_lt_of_cell? w _ hx116_1)).trans hx116_1
          replace hx116_2 := (HB.out.cell (World.block_lt_of_cell? w _ hx116_2)).trans hx116_2
          replace p116 := eq_true p116
          replace q116 := eq_true q116
          go_upto_region 6 with (first | ((with_reducible refine gate_dst (N := 5) rfl ?_); refine box_event ?hg (N := 5) ?hd (cs := #[.int .u8 0, .int .i64 0, .int .i64 0]) (t := 32) ?hr ?_; (case hd => rfl); (case hg => rfl); (case hr => first | (go_simp; done) | (go_simp; rfl)); intro gb117 hg w5 hbox hb; have n0_ := Aside0.mk (below_step (by repeat (first | (with_reducible first | exact HB.out | apply below_alloc | apply pw_below_drewN | apply below_drew1) | exact HB.out)) hb); have n1_ := Aside0.mk (hbox); have n2_ := Aside0.mk ((by rw [hg]; exact (below_size (by repeat (first | (with_reducible first | exact HB.out | apply below_alloc | apply pw_below_drewN | apply below_drew1) | exact HB.out))) : w.heap.size ≤ gb117)); have n3_ := Aside0.mk ((by rw [hg]; exact (below_size (by repeat (first | (with_reducible first | exact HB.out | apply below_alloc | apply pw_below_drewN | apply below_drew1) | exact HB.out))) : w.heap.size ≤ gb117)); clear HB; have HB := n0_; have BK117 := n1_; have GW117 := n2_; have GE117 := n3_; clear n0_ n1_ n2_ n3_; clear hb hbox hg; have hcz6_0 : w5.cell? ⟨gb117, 0, none⟩ = some (.int .u8 0) := (blk_cell BK117.out 0).trans rfl; have hcz6_1 : w5.cell? ⟨gb117, 1, none⟩ = some (.int .i64 0) := (blk_cell BK117.out 1).trans rfl; have hcz6_2 : w5.cell? ⟨gb117, 2, none⟩ = some (.int .i64 0) := (blk_cell BK117.out 2).trans rfl; have hfz6_0 := blk_frozen BK117.out 0; have hfz6_1 := blk_frozen BK117.out 1; have hfz6_2 := blk_frozen BK117.out 2))
          (try simp only [Act.put, List.setIfInBounds_toArray, List.set_cons_zero, List.set_cons_succ])
          go_cut [23] (fun v23 wc => ∃ (kq : Nat) (x23_3 : Bool), v23 = .bool x23_3 ∧ Aside0 (wainloadref07_Right.j1 kq l0 x3_1 x4_1 x23_3 ((rd_T32 l0 x4_1).f0) ((rd_T32 l0 x4_1).f1) ((rd_T32 l0 x4_1).f2) = some r) ∧ Aside0 (kq ≤ k1) ∧ Aside0 (wc.heap[gb117]? = some (.cells #[.int .u8 ((rd_T32 l0 x4_1).f0), .int .i64 ((rd_T32 l0 x4_1).f1), .int .i64 ((rd_T32 l0 x4_1).f2)] 32 (0, 0))) ∧ Aside0 (Below w.heap.size w wc))
          case first =>
            have H := HC4.out
            clear HC4
            by_cases c7 : ((rd_T32 l0 x4_1).f1) = 0
            · rw [if_pos c7] at H
              have c7b0 : (((rd_T32 l0 x4_1).f1) == 0) = true := beq_iff_eq.mpr c7
              have c7b1 : (((rd_T32 l0 x4_1).f1) != 0) = false := bne_eq_false_iff_eq.mpr c7
              clear c7
              (first | rw [c7b0] | (simp only [i64_w, i32_w]; rw [c7b0]) | skip)
              have H' := Aside0.mk H
              clear H
              have hcz8_0 : w5.cell? ⟨gb117, 0, none⟩ = some (.int .u8 0) := (blk_cell BK117.out 0).trans rfl
              have hcz8_1 : w5.cell? ⟨gb117, 1, none⟩ = some (.int .i64 0) := (blk_cell BK117.out 1).trans rfl
              have hcz8_2 : w5.cell? ⟨gb117, 2, none⟩ = some (.int .i64 0) := (blk_cell BK117.out 2).trans rfl
              have hfz8_0 := blk_frozen BK117.out 0
              have hfz8_1 := blk_frozen BK117.out 1
              have hfz8_2 := blk_frozen BK117.out 2
              go_wp2
              go_meet
              case rel => exact ⟨_, ((((rd_T32 l0 x4_1).f2) == 0)), (by first | rfl | (simp; done) | (simp [*]; done)), H', ⟨by have := HK1.out; first | omega | exact Nat.le_refl _⟩, ⟨by (with_reducible repeat (first | refine blk_drewN ?_ _ | refine blk_drew ?_ | refine blk_alloc ?_ _)); refine blk_put (cs := #[.int .u8 ((rd_T32 l0 x4_1).f0), .int .i64 ((rd_T32 l0 x4_1).f1), .int .i64 0]) ?_ 2 _ rfl; (with_reducible repeat (first | refine blk_drewN ?_ _ | refine blk_drew ?_ | refine blk_alloc ?_ _)); refine blk_put (cs := #[.int .u8 ((rd_T32 l0 x4_1).f0), .int .i64 0, .int .i64 0]) ?_ 1 _ rfl; (with_reducible repeat (first | refine blk_drewN ?_ _ | refine blk_drew ?_ | refine blk_alloc ?_ _)); refine blk_put (cs := #[.int .u8 0, .int .i64 0, .int .i64 0]) ?_ 0 _ rfl; (with_reducible repeat (first | refine blk_drewN ?_ _ | refine blk_drew ?_ | refine blk_alloc ?_ _)); exact BK117.out⟩, ⟨by repeat (first | (with_reducible first | exact HB.out | apply below_alloc | apply pw_below_drewN | apply below_drew1 | refine below_set ?_ GE117.out) | exact HB.out)⟩⟩
            · rw [if_neg c7] at H
              have c7b0 : (((rd_T32 l0 x4_1).f1) == 0) = false := beq_eq_false_iff_ne.mpr c7
              have c7b1 : (((rd_T32 l0 x4_1).f1) != 0) = true := bne_iff_ne.mpr c7
              (first | rw [c7b0] | (simp only [i64_w, i32_w]; rw [c7b0]) | skip)
              have H' := Aside0.mk H
              clear H
              have hcz9_0 : w5.cell? ⟨gb117, 0, none⟩ = some (.int .u8 0) := (blk_cell BK117.out 0).trans rfl
              have hcz9_1 : w5.cell? ⟨gb117, 1, none⟩ = some (.int .i64 0) := (blk_cell BK117.out 1).trans rfl
              have hcz9_2 : w5.cell? ⟨gb117, 2, none⟩ = some (.int .i64 0) := (blk_cell BK117.out 2).trans rfl
              have hfz9_0 := blk_frozen BK117.out 0
              have hfz9_1 := blk_frozen BK117.out 1
              have hfz9_2 := blk_frozen BK117.out 2
              go_wp2
              go_meet
              case rel => exact ⟨_, (false), (by first | rfl | (simp; done) | (simp [*]; done)), H', ⟨by have := HK1.out; first | omega | exact Nat.le_refl _⟩, ⟨by (with_reducible repeat (first | refine blk_drewN ?_ _ | refine blk_drew ?_ | refine blk_alloc ?_ _)); refine blk_put (cs := #[.int .u8 ((rd_T32 l0 x4_1).f0), .int .i64 ((rd_T32 l0 x4_1).f1), .int .i64 0]) ?_ 2 _ rfl; (with_reducible repeat (first | refine blk_drewN ?_ _ | refine blk_drew ?_ | refine blk_alloc ?_ _)); refine blk_put (cs := #[.int .u8 ((rd_T32 l0 x4_1).f0), .int .i64 0, .int .i64 0]) ?_ 1 _ rfl; (with_reducible repeat (first | refine blk_drewN ?_ _ | refine blk_drew ?_ | refine blk_alloc ?_ _)); refine blk_put (cs := #[.int .u8 0, .int .i64 0, .int .i64 0]) ?_ 0 _ rfl; (with_reducible repeat (first | refine blk_drewN ?_ _ | refine blk_drew ?_ | refine blk_alloc ?_ _)); exact BK117.out⟩, ⟨by repeat (first | (with_reducible first | exact HB.out | apply below_alloc | apply pw_below_drewN | apply below_drew1 | refine below_set ?_ GE117.out) | exact HB.out)⟩⟩
          case rest =>
            clear HC4
            try clear c1
            try clear p1
            try clear q1
            try clear hx1
            try clear c2
            try clear c2b0
            try clear p2
            try clear c3
            try clear c3b0
            try clear c7
            try clear c7b0
            try clear c7b1
            try clear hcz6_0
            try clear hcz6_1
            try clear hcz6_2
            try clear hcz8_0
            try clear hcz8_1
            try clear hcz8_2
            try clear hcz9_0
            try clear hcz9_1
            try clear hcz9_2
            try clear hfz6_0
            try clear hfz6_1
            try clear hfz6_2
            try clear hfz8_0
            try clear hfz8_1
            try clear hfz8_2
            try clear hfz9_0
            try clear hfz9_1
            try clear hfz9_2
            try clear hx116_0
            try clear hx116_1
            try clear hx116_2
            try clear p116
            try clear q116
            obtain ⟨kq, x23_3, rfl, HA, HJ3, BK117, HB⟩ := hcut
            cases kq with
            | zero => exact absurd HA.out (by simp [wainloadref07_Right.j1])
            | succ kj3 =>
              have H := HA.out
              clear HA
              simp only [wainloadref07_Right.j1] at H
              by_cases c10 : x23_3 = true
              · subst c10
                have H1 : (wainloadref07_Right.l0 kj3 l0 (wrap64 (x3_1 + 1)) (wrap64 (x4_1 + 1))) = some r := by rw [if_pos rfl] at H; exact H
                clear H
                have H := H1
                clear H1
                have H' := Aside0.mk H
                clear H
                go_wp2
                go_roundg kj3
                case measure => have := HK1.out; have := HJ3.out; omega
                case rel => exact ⟨(wrap64 (x3_1 + 1)), (wrap64 (x4_1 + 1)), (by first | rfl | (simp; done) | (simp [*]; done)), (by first | rfl | (simp; done) | (simp [*]; done)), H', ⟨by have := HK1.out; have := HJ3.out; omega⟩, ⟨by repeat (first | (with_reducible first | exact HB.out | apply below_alloc | apply pw_below_drewN | apply below_drew1 | refine below_set ?_ GE117.out) | exact HB.out)⟩⟩
              · replace c10 := Bool.eq_false_iff.mpr c10
                subst c10
                have H1 : (if ((rd_T32 l0 x4_1).f0) = 0 then (if ((rd_T32 l0 x4_1).f1) < 3 then (some false) else (if ((rd_T32 l0 x4_1).f1) > 258 then (some false) else (if ((rd_T32 l0 x4_1).f2) < 1 then (some false) else (if ((rd_T32 l0 x4_1).f2) > 32768 then (some false) else (if ((rd_T32 l0 x4_1).f2) > x3_1 then (some false) else (wainloadref07_Right.l0 kj3 l0 (wrap64 (x3_1 + ((rd_T32 l0 x4_1).f1))) (wrap64 (x4_1 + 1)))))))) else (some false)) = some r := by rw [if_neg (show ¬ (false = true) by decide)] at H; exact H
                clear H
                have H := H1
                clear H1
                by_cases c11 : ((rd_T32 l0 x4_1).f0) = 0
                · rw [if_pos c11] at H
                  have c11b0 : (((rd_T32 l0 x4_1).f0) == 0) = true := beq_iff_eq.mpr c11
                  have c11b1 : (((rd_T32 l0 x4_1).f0) != 0) = false := bne_eq_false_iff_eq.mpr c11
                  clear c11
                  by_cases c12 : ((rd_T32 l0 x4_1).f1) < 3
                  · rw [if_pos c12] at H
                    have c12b0 : decide (((rd_T32 l0 x4_1).f1) < 3) = true := decide_eq_true c12
                    clear c12
                    obtain rfl := Option.some.inj H
                    have hcz13_0 : wc.cell? ⟨gb117, 0, none⟩ = some (.int .u8 ((rd_T32 l0 x4_1).f0)) := (blk_cell BK117.out 0).trans rfl
                    have hcz13_1 : wc.cell? ⟨gb117, 1, none⟩ = some (.int .i64 ((rd_T32 l0 x4_1).f1)) := (blk_cell BK117.out 1).trans rfl
                    have hcz13_2 : wc.cell? ⟨gb117, 2, none⟩ = some (.int .i64 ((rd_T32 l0 x4_1).f2)) := (blk_cell BK117.out 2).trans rfl
                    have hfz13_0 := blk_frozen BK117.out 0
                    have hfz13_1 := blk_frozen BK117.out 1
                    have hfz13_2 := blk_frozen BK117.out 2
                    go_wp2
                    go_ret
                    exact ⟨by first | rfl | (simp [errW_none, errW_some] <;> rfl) | (simp [*, errW_none, errW_some] <;> rfl), by repeat (first | (with_reducible first | exact HB.out | apply below_alloc | apply pw_below_drewN | apply below_drew1 | refine below_set ?_ GE117.out) | exact HB.out)⟩
                  · rw [if_neg c12] at H
                    have c12b0 : decide (((rd_T32 l0 x4_1).f1) < 3) = false := decide_eq_false c12
                    clear c12
                    by_cases c14 : ((rd_T32 l0 x4_1).f1) > 258
                    · rw [if_pos c14] at H
                      have c14b0 : decide (258 < ((rd_T32 l0 x4_1).f1)) = true := decide_eq_true c14
                      clear c14
                      obtain rfl := Option.some.inj H
                      have hcz15_0 : wc.cell? ⟨gb117, 0, none⟩ = some (.int .u8 ((rd_T32 l0 x4_1).f0)) := (blk_cell BK117.out 0).trans rfl
                      have hcz15_1 : wc.cell? ⟨gb117, 1, none⟩ = some (.int .i64 ((rd_T32 l0 x4_1).f1)) := (blk_cell BK117.out 1).trans rfl
                      have hcz15_2 : wc.cell? ⟨gb117, 2, none⟩ = some (.int .i64 ((rd_T32 l0 x4_1).f2)) := (blk_cell BK117.out 2).trans rfl
                      have hfz15_0 := blk_frozen BK117.out 0
                      have hfz15_1 := blk_frozen BK117.out 1
                      have hfz15_2 := blk_frozen BK117.out 2
                      go_wp2
                      go_ret
                      exact ⟨by first | rfl | (simp [errW_none, errW_some] <;> rfl) | (simp [*, errW_none, errW_some] <;> rfl), by repeat (first | (with_reducible first | exact HB.out | apply below_alloc | apply pw_below_drewN | apply below_drew1 | refine below_set ?_ GE117.out) | exact HB.out)⟩
                    · rw [if_neg c14] at H
                      have c14b0 : decide (258 < ((rd_T32 l0 x4_1).f1)) = false := decide_eq_false c14
                      clear c14
                      by_cases c16 : ((rd_T32 l0 x4_1).f2) < 1
                      · rw [if_pos c16] at H
                        have c16b0 : decide (((rd_T32 l0 x4_1).f2) < 1) = true := decide_eq_true c16
                        clear c16
                        obtain rfl := Option.some.inj H
                        have hcz17_0 : wc.cell? ⟨gb117, 0, none⟩ = some (.int .u8 ((rd_T32 l0 x4_1).f0)) := (blk_cell BK117.out 0).trans rfl
                        have hcz17_1 : wc.cell? ⟨gb117, 1, none⟩ = some (.int .i64 ((rd_T32 l0 x4_1).f1)) := (blk_cell BK117.out 1).trans rfl
                        have hcz17_2 : wc.cell? ⟨gb117, 2, none⟩ = some (.int .i64 ((rd_T32 l0 x4_1).f2)) := (blk_cell BK117.out 2).trans rfl
                        have hfz17_0 := blk_frozen BK117.out 0
                        have hfz17_1 := blk_frozen BK117.out 1
                        have hfz17_2 := blk_frozen BK117.out 2
                        go_wp2
                        go_ret
                        exact ⟨by first | rfl | (simp [errW_none, errW_some] <;> rfl) | (simp [*, errW_none, errW_some] <;> rfl), by repeat (first | (with_reducible first | exact HB.out | apply below_alloc | apply pw_below_drewN | apply below_drew1 | refine below_set ?_ GE117.out) | exact HB.out)⟩
                      · rw [if_neg c16] at H
                        have c16b0 : decide (((rd_T32 l0 x4_1).f2) < 1) = false := decide_eq_false c16
                        clear c16
                        by_cases c18 : ((rd_T32 l0 x4_1).f2) > 32768
                        · rw [if_pos c18] at H
                          have c18b0 : decide (32768 < ((rd_T32 l0 x4_1).f2)) = true := decide_eq_true c18
                          clear c18
                          obtain rfl := Option.some.inj H
                          have hcz19_0 : wc.cell? ⟨gb117, 0, none⟩ = some (.int .u8 ((rd_T32 l0 x4_1).f0)) := (blk_cell BK117.out 0).trans rfl
                          have hcz19_1 : wc.cell? ⟨gb117, 1, none⟩ = some (.int .i64 ((rd_T32 l0 x4_1).f1)) := (blk_cell BK117.out 1).trans rfl
                          have hcz19_2 : wc.cell? ⟨gb117, 2, none⟩ = some (.int .i64 ((rd_T32 l0 x4_1).f2)) := (blk_cell BK117.out 2).trans rfl
                          have hfz19_0 := blk_frozen BK117.out 0
                          have hfz19_1 := blk_frozen BK117.out 1
                          have hfz19_2 := blk_frozen BK117.out 2
                          go_wp2
                          go_ret
                          exact ⟨by first | rfl | (simp [errW_none, errW_some] <;> rfl) | (simp [*, errW_none, errW_some] <;> rfl), by repeat (first | (with_reducible first | exact HB.out | apply below_alloc | apply pw_below_drewN | apply below_drew1 | refine below_set ?_ GE117.out) | exact HB.out)⟩
                        · rw [if_neg c18] at H
                          have c18b0 : decide (32768 < ((rd_T32 l0 x4_1).f2)) = false := decide_eq_false c18
                          clear c18
                          by_cases c20 : ((rd_T32 l0 x4_1).f2) > x3_1
                          · rw [if_pos c20] at H
                            have c20b0 : decide (x3_1 < ((rd_T32 l0 x4_1).f2)) = true := decide_eq_true c20
                            clear c20
                            obtain rfl := Option.some.inj H
                            have hcz21_0 : wc.cell? ⟨gb117, 0, none⟩ = some (.int .u8 ((rd_T32 l0 x4_1).f0)) := (blk_cell BK117.out 0).trans rfl
                            have hcz21_1 : wc.cell? ⟨gb117, 1, none⟩ = some (.int .i64 ((rd_T32 l0 x4_1).f1)) := (blk_cell BK117.out 1).trans rfl
                            have hcz21_2 : wc.cell? ⟨gb117, 2, none⟩ = some (.int .i64 ((rd_T32 l0 x4_1).f2)) := (blk_cell BK117.out 2).trans rfl
                            have hfz21_0 := blk_frozen BK117.out 0
                            have hfz21_1 := blk_frozen BK117.out 1
                            have hfz21_2 := blk_frozen BK117.out 2
                            go_wp2
                            go_ret
                            exact ⟨by first | rfl | (simp [errW_none, errW_some] <;> rfl) | (simp [*, errW_none, errW_some] <;> rfl), by repeat (first | (with_reducible first | exact HB.out | apply below_alloc | apply pw_below_drewN | apply below_drew1 | refine below_set ?_ GE117.out) | exact HB.out)⟩
                          · rw [if_neg c20] at H
                            have c20b0 : decide (x3_1 < ((rd_T32 l0 x4_1).f2)) = false := decide_eq_false c20
                            clear c20
                            have H' := Aside0.mk H
                            clear H
                            have hcz22_0 : wc.cell? ⟨gb117, 0, none⟩ = some (.int .u8 ((rd_T32 l0 x4_1).f0)) := (blk_cell BK117.out 0).trans rfl
                            have hcz22_1 : wc.cell? ⟨gb117, 1, none⟩ = some (.int .i64 ((rd_T32 l0 x4_1).f1)) := (blk_cell BK117.out 1).trans rfl
                            have hcz22_2 : wc.cell? ⟨gb117, 2, none⟩ = some (.int .i64 ((rd_T32 l0 x4_1).f2)) := (blk_cell BK117.out 2).trans rfl
                            have hfz22_0 := blk_frozen BK117.out 0
                            have hfz22_1 := blk_frozen BK117.out 1
                            have hfz22_2 := blk_frozen BK117.out 2
                            go_wp2
                            go_roundg kj3
                            case measure => have := HK1.out; have := HJ3.out; omega
                            case rel => exact ⟨(wrap64 (x3_1 + ((rd_T32 l0 x4_1).f1))), (wrap64 (x4_1 + 1)), (by first | rfl | (simp; done) | (simp [*]; done)), (by first | rfl | (simp; done) | (simp [*]; done)), H', ⟨by have := HK1.out; have := HJ3.out; omega⟩, ⟨by repeat (first | (with_reducible first | exact HB.out | apply below_alloc | apply pw_below_drewN | apply below_drew1 | refine below_set ?_ GE117.out) | exact HB.out)⟩⟩
                · rw [if_neg c11] at H
                  have c11b0 : (((rd_T32 l0 x4_1).f0) == 0) = false := beq_eq_false_iff_ne.mpr c11
                  have c11b1 : (((rd_T32 l0 x4_1).f0) != 0) = true := bne_iff_ne.mpr c11
                  obtain rfl := Option.some.inj H
                  have hcz23_0 : wc.cell? ⟨gb117, 0, none⟩ = some (.int .u8 ((rd_T32 l0 x4_1).f0)) := (blk_cell BK117.out 0).trans rfl
                  have hcz23_1 : wc.cell? ⟨gb117, 1, none⟩ = some (.int .i64 ((rd_T32 l0 x4_1).f1)) := (blk_cell BK117.out 1).trans rfl
                  have hcz23_2 : wc.cell? ⟨gb117, 2, none⟩ = some (.int .i64 ((rd_T32 l0 x4_1).f2)) := (blk_cell BK117.out 2).trans rfl
                  have hfz23_0 := blk_frozen BK117.out 0
                  have hfz23_1 := blk_frozen BK117.out 1
                  have hfz23_2 := blk_frozen BK117.out 2
                  go_wp2
                  go_ret
                  exact ⟨by first | rfl | (simp [errW_none, errW_some] <;> rfl) | (simp [*, errW_none, errW_some] <;> rfl), by repeat (first | (with_reducible first | exact HB.out | apply below_alloc | apply pw_below_drewN | apply below_drew1 | refine below_set ?_ GE117.out) | exact HB.out)⟩
        · rw [if_neg c3] at H
          exact absurd H (by simp)
      · rw [if_neg c2] at H
        have c2b0 : decide (x4_1 < (l0.length : Int)) = false := decide_eq_false c2
        clear c2
        obtain rfl := Option.some.inj H
        go_wp2
        go_ret
        exact ⟨by first | rfl | (simp [errW_none, errW_some] <;> rfl) | (simp [*, errW_none, errW_some] <;> rfl), by repeat (first | (with_reducible first | exact HB.out | apply below_alloc | apply pw_below_drewN | apply below_drew1) | exact HB.out)⟩

end Go.Proofs.Ytohkjiellcikhaa.P07
