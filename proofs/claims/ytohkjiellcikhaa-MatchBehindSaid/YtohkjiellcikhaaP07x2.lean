-- Printed for this claim by a program over the kit's print; some callees are given by texts of mine. Lean checks it.
import Derived.Test.YtohkjiellcikhaaP07x0
namespace Go.Proofs.Ytohkjiellcikhaa.P07
open Go.RowKit Go.Proofs.YtohkjiellcikhaaW.PrintWords Go.Proofs.YtohkjiellcikhaaW.PrintLast Go.Proofs.YtohkjiellcikhaaW.PrintMore
attribute [local go_sem] max2_int min2_int max_two min_two max_three min_three max_four min_four   -- for this text's walks alone
set_option linter.unusedVariables false
set_option linter.unusedSimpArgs false

/-! ### match_Right: function 14 -/
mutual
def match_Right.l0 : Nat → Int → List (S32) → Int → Int → Option (Bool)
  | 0, _, _, _, _ => none
  | k + 1, x3, x7, x8, x9 => if x9 < x8 then (if 0 ≤ x9 then (if x9 < (x7.length : Int) then (if ((rd_T32 x7 x9).f0) = 0 then (if ((rd_T32 x7 x9).f1) ≥ 3 then (if ((rd_T32 x7 x9).f1) ≤ 258 then (if ((rd_T32 x7 x9).f2) ≥ 1 then (match_Right.j1 k x3 (decide (((rd_T32 x7 x9).f2) ≤ (mn x3 32768))) x7 x8 x9 ((rd_T32 x7 x9).f0) ((rd_T32 x7 x9).f1) ((rd_T32 x7 x9).f2)) else (match_Right.j1 k x3 false x7 x8 x9 ((rd_T32 x7 x9).f0) ((rd_T32 x7 x9).f1) ((rd_T32 x7 x9).f2))) else (match_Right.j1 k x3 false x7 x8 x9 ((rd_T32 x7 x9).f0) ((rd_T32 x7 x9).f1) ((rd_T32 x7 x9).f2))) else (match_Right.j1 k x3 false x7 x8 x9 ((rd_T32 x7 x9).f0) ((rd_T32 x7 x9).f1) ((rd_T32 x7 x9).f2))) else (match_Right.j1 k x3 false x7 x8 x9 ((rd_T32 x7 x9).f0) ((rd_T32 x7 x9).f1) ((rd_T32 x7 x9).f2))) else (none)) else (none)) else (some true)
def match_Right.j1 : Nat → Int → Bool → List (S32) → Int → Int → Int → Int → Int → Option (Bool)
  | 0, _, _, _, _, _, _, _, _ => none
  | k + 1, x3, x6, x7, x8, x9, x103000, x103001, x103002 => if x103001 = 0 then (match_Right.j2 k x3 x6 x7 x8 x9 (x103002 == 0) x103000 x103001 x103002) else (match_Right.j2 k x3 x6 x7 x8 x9 false x103000 x103001 x103002)
def match_Right.j2 : Nat → Int → Bool → List (S32) → Int → Int → Bool → Int → Int → Int → Option (Bool)
  | 0, _, _, _, _, _, _, _, _, _ => none
  | k + 1, x3, x6, x7, x8, x9, x38, x103000, x103001, x103002 => if x38 = true then (match_Right.l0 k (wrap64 (x3 + 1)) x7 x8 (wrap64 (x9 + 1))) else (if x6 = true then (match_Right.l0 k (wrap64 (x3 + x103001)) x7 x8 (wrap64 (x9 + 1))) else (some false))
end
def match_Right.f (k : Nat) (l0 : List (S32)) : Option (Bool) := match_Right.l0 k 0 l0 (l0.length : Int) 0
theorem match_Right.mono_l : ∀ k, (∀ y0 y1 y2 y3, LeO (match_Right.l0 k y0 y1 y2 y3) (match_Right.l0 (k + 1) y0 y1 y2 y3)) ∧ (∀ y0 y1 y2 y3 y4 y5 y6 y7, LeO (match_Right.j1 k y0 y1 y2 y3 y4 y5 y6 y7) (match_Right.j1 (k + 1) y0 y1 y2 y3 y4 y5 y6 y7)) ∧ (∀ y0 y1 y2 y3 y4 y5 y6 y7 y8, LeO (match_Right.j2 k y0 y1 y2 y3 y4 y5 y6 y7 y8) (match_Right.j2 (k + 1) y0 y1 y2 y3 y4 y5 y6 y7 y8))
  | 0 => ⟨fun _ _ _ _ r h => by simp [match_Right.l0] at h, fun _ _ _ _ _ _ _ _ r h => by simp [match_Right.j1] at h, fun _ _ _ _ _ _ _ _ _ r h => by simp [match_Right.j2] at h⟩
  | k + 1 => by
    obtain ⟨ih0, ih1, ih2⟩ := match_Right.mono_l k
    refine ⟨?_, ?_, ?_⟩
    · intro y0 y1 y2 y3
      unfold match_Right.l0
      repeat' first
      | (with_reducible exact ih0 _ _ _ _)
      | (with_reducible exact ih1 _ _ _ _ _ _ _ _)
      | (with_reducible exact ih2 _ _ _ _ _ _ _ _ _)
      | (with_reducible exact LeO.refl _)
      | (with_reducible exact LeO.none _)
      | (with_reducible refine LeO.ite ?_ ?_)
      | (with_reducible refine LeO.bind ?_ (fun _ => ?_))
      | exact ih0 _ _ _ _
      | exact ih1 _ _ _ _ _ _ _ _
      | exact ih2 _ _ _ _ _ _ _ _ _
      | exact LeO.none _
      | refine LeO.ite ?_ ?_
      | refine LeO.bind ?_ (fun _ => ?_)
    · intro y0 y1 y2 y3 y4 y5 y6 y7
      unfold match_Right.j1
      repeat' first
      | (with_reducible exact ih0 _ _ _ _)
      | (with_reducible exact ih1 _ _ _ _ _ _ _ _)
      | (with_reducible exact ih2 _ _ _ _ _ _ _ _ _)
      | (with_reducible exact LeO.refl _)
      | (with_reducible exact LeO.none _)
      | (with_reducible refine LeO.ite ?_ ?_)
      | (with_reducible refine LeO.bind ?_ (fun _ => ?_))
      | exact ih0 _ _ _ _
      | exact ih1 _ _ _ _ _ _ _ _
      | exact ih2 _ _ _ _ _ _ _ _ _
      | exact LeO.none _
      | refine LeO.ite ?_ ?_
      | refine LeO.bind ?_ (fun _ => ?_)
    · intro y0 y1 y2 y3 y4 y5 y6 y7 y8
      unfold match_Right.j2
      repeat' first
      | (with_reducible exact ih0 _ _ _ _)
      | (with_reducible exact ih1 _ _ _ _ _ _ _ _)
      | (with_reducible exact ih2 _ _ _ _ _ _ _ _ _)
      | (with_reducible exact LeO.refl _)
      | (with_reducible exact LeO.none _)
      | (with_reducible refine LeO.ite ?_ ?_)
      | (with_reducible refine LeO.bind ?_ (fun _ => ?_))
      | exact ih0 _ _ _ _
      | exact ih1 _ _ _ _ _ _ _ _
      | exact ih2 _ _ _ _ _ _ _ _ _
      | exact LeO.none _
      | refine LeO.ite ?_ ?_
      | refine LeO.bind ?_ (fun _ => ?_)
theorem match_Right.mono : ∀ a0 k, LeO (match_Right.f k a0) (match_Right.f (k + 1) a0) := by
  intro a0 k
  obtain ⟨ih0, ih1, ih2⟩ := match_Right.mono_l k
  unfold match_Right.f
  repeat' first
      | (with_reducible exact ih0 _ _ _ _)
      | (with_reducible exact ih1 _ _ _ _ _ _ _ _)
      | (with_reducible exact ih2 _ _ _ _ _ _ _ _ _)
      | (with_reducible exact LeO.refl _)
      | (with_reducible exact LeO.none _)
      | (with_reducible refine LeO.ite ?_ ?_)
      | (with_reducible refine LeO.bind ?_ (fun _ => ?_))
      | exact ih0 _ _ _ _
      | exact ih1 _ _ _ _ _ _ _ _
      | exact ih2 _ _ _ _ _ _ _ _ _
      | exact LeO.none _
      | refine LeO.ite ?_ ?_
      | refine LeO.bind ?_ (fun _ => ?_)
set_option maxHeartbeats 8000000 in
set_option maxRecDepth 100000 in
theorem match_Right.calls (k : Nat) (A0 : Option Addr) (c0 : Nat) (l0 : List (S32)) (r : Bool) (w : World) (hr0 : Kd.C k32 w A0 l0.length l0) (hc0 : l0.length ≤ c0) (h : match_Right.f k l0 = some r) :
    Calls Try.prog 14 #[.slice A0 l0.length c0] w fun e w' => e = .returned (.bool r) ∧ Below w.heap.size w w' := by
  have hu32 := Try.underlying32
  have HR0 := Aside0.mk hr0
  have HC0 := Aside0.mk hc0
  clear hr0 hc0
  have HB := Aside0.mk (Below.refl w.heap.size w)
  have H : (match_Right.l0 k 0 l0 (l0.length : Int) 0) = some r := h
  clear h
  have H' := Aside0.mk H
  clear H
  go_enter Try.func14, Try.ntmps14
  go_wp2
  go_loopg [3, 9] k (fun kq v3 v9 w' => ∃ (x3_1 : Int) (x9_1 : Int), v3 = .int .i64 x3_1 ∧ v9 = .int .i64 x9_1 ∧ Aside0 (match_Right.l0 kq x3_1 l0 (l0.length : Int) x9_1 = some r) ∧ Aside0 (kq ≤ k) ∧ Aside0 (Below w.heap.size w w'))
  case atStart => exact ⟨(0), (0), (by first | rfl | (simp; done) | (simp [*]; done)), (by first | rfl | (simp; done) | (simp [*]; done)), H', ⟨Nat.le_refl _⟩, ⟨by repeat (first | (with_reducible first | exact HB.out | apply below_alloc | apply pw_below_drewN | apply below_drew1) | exact HB.out)⟩⟩
  case round =>
    clear H'
    try clear c1
    obtain ⟨x3_1, x9_1, rfl, rfl, HA, HK1, HB⟩ := hrel
    cases gk with
    | zero => exact absurd HA.out (by simp [match_Right.l0])
    | succ k1 =>
      have H := HA.out
      clear HA
      simp only [match_Right.l0] at H
      by_cases c2 : x9_1 < (l0.length : Int)
      · rw [if_pos c2] at H
        have c2b0 : decide (x9_1 < (l0.length : Int)) = true := decide_eq_true c2
        clear c2
        by_cases c3 : 0 ≤ x9_1
        · rw [if_pos c3] at H
          have c3b0 : decide (0 ≤ x9_1) = true := decide_eq_true c3
          clear c3
          by_cases c4 : x9_1 < (l0.length : Int)
          · rw [if_pos c4] at H
            have c4b0 : decide (x9_1 < (l0.length : Int)) = true := decide_eq_true c4
            clear c4
            have HC5 := Aside0.mk H
            clear H
            have p101 : 0 ≤ (x9_1 : Int) := of_decide_eq_true (by first | (with_reducible assumption) | assumption)
            have q101 : x9_1 < (l0.length : Int) := of_decide_eq_true (by first | (with_reducible assumption) | assumption)
            obtain ⟨ad101, e101, hx101_0, hx101_1, hx101_2⟩ := at_T32 HR0.out x9_1 p101 q101
            cases e101
            replace hx101_0 := (HB.out.cell (World.block_lt_of_cell? w _ hx101_0)).trans hx101_0
            replace hx101_1 := (HB.out.cell (World.block_lt_of_cell? w _ hx101_1)).trans hx101_1
            replace hx101_2 := (HB.out.cell (World.block_lt_of_cell? w _ hx101_2)).trans hx101_2
            replace p101 := eq_true p101
            replace q101 := eq_true q101
            go_upto_region 5 with (first | ((with_reducible refine gate_dst (N := 5) rfl ?_); (try (refine gate_guard (by rfl) ?_; dsimp only)); refine box_event ?hg (N := 5) ?hd (cs := #[.int .u8 0, .int .i64 0, .int .i64 0]) (t := 32) ?hr ?_; (case hd => rfl); (case hg => rfl); (case hr => first | (go_simp; done) | (go_simp; rfl)); intro gb102 hg w6 hbox hb; have n0_ := Aside0.mk (below_step (by repeat (first | (with_reducible first | exact HB.out | apply below_alloc | apply pw_below_drewN | apply below_drew1) | exact HB.out)) hb); have n1_ := Aside0.mk (hbox); have n2_ := Aside0.mk ((by rw [hg]; exact (below_size (by repeat (first | (with_reducible first | exact HB.out | apply below_alloc | apply pw_below_drewN | apply below_drew1) | exact HB.out))) : w.heap.size ≤ gb102)); have n3_ := Aside0.mk ((by rw [hg]; exact (below_size (by repeat (first | (with_reducible first | exact HB.out | apply below_alloc | apply pw_below_drewN | apply below_drew1) | exact HB.out))) : w.heap.size ≤ gb102)); clear HB; have HB := n0_; have BK102 := n1_; have GW102 := n2_; have GE102 := n3_; clear n0_ n1_ n2_ n3_; clear hb hbox hg; have hcz7_0 : w6.cell? ⟨gb102, 0, none⟩ = some (.int .u8 0) := (blk_cell BK102.out 0).trans rfl; have hcz7_1 : w6.cell? ⟨gb102, 1, none⟩ = some (.int .i64 0) := (blk_cell BK102.out 1).trans rfl; have hcz7_2 : w6.cell? ⟨gb102, 2, none⟩ = some (.int .i64 0) := (blk_cell BK102.out 2).trans rfl; have hfz7_0 := blk_frozen BK102.out 0; have hfz7_1 := blk_frozen BK102.out 1; have hfz7_2 := blk_frozen BK102.out 2))
            (try simp only [Act.put, List.setIfInBounds_toArray, List.set_cons_zero, List.set_cons_succ])
            go_cut [6] (fun v6 wc => ∃ (kq : Nat) (x6_4 : Bool), v6 = .bool x6_4 ∧ Aside0 (match_Right.j1 kq x3_1 x6_4 l0 (l0.length : Int) x9_1 ((rd_T32 l0 x9_1).f0) ((rd_T32 l0 x9_1).f1) ((rd_T32 l0 x9_1).f2) = some r) ∧ Aside0 (kq ≤ k1) ∧ Aside0 (wc.heap[gb102]? = some (.cells #[.int .u8 ((rd_T32 l0 x9_1).f0), .int .i64 ((rd_T32 l0 x9_1).f1), .int .i64 ((rd_T32 l0 x9_1).f2)] 32 (0, 0))) ∧ Aside0 (Below w.heap.size w wc))
            case first =>
              have H := HC5.out
              clear HC5
              by_cases c8 : ((rd_T32 l0 x9_1).f0) = 0
              · rw [if_pos c8] at H
                have c8b0 : (((rd_T32 l0 x9_1).f0) == 0) = true := beq_iff_eq.mpr c8
                have c8b1 : (((rd_T32 l0 x9_1).f0) != 0) = false := bne_eq_false_iff_eq.mpr c8
                clear c8
                (first | rw [c8b0] | (simp only [i64_w, i32_w]; rw [c8b0]) | skip)
                by_cases c9 : ((rd_T32 l0 x9_1).f1) ≥ 3
                · rw [if_pos c9] at H
                  have c9b0 : decide (3 ≤ ((rd_T32 l0 x9_1).f1)) = true := decide_eq_true c9
                  clear c9
                  by_cases c10 : ((rd_T32 l0 x9_1).f1) ≤ 258
                  · rw [if_pos c10] at H
                    have c10b0 : decide (((rd_T32 l0 x9_1).f1) ≤ 258) = true := decide_eq_true c10
                    clear c10
                    by_cases c11 : ((rd_T32 l0 x9_1).f2) ≥ 1
                    · rw [if_pos c11] at H
                      have c11b0 : decide (1 ≤ ((rd_T32 l0 x9_1).f2)) = true := decide_eq_true c11
                      clear c11
                      obtain ⟨ji12, hji12⟩ : ∃ j_ : Int, (mn x3_1 32768) = j_ := ⟨_, rfl⟩
                      replace H : (match_Right.j1 k1 x3_1 (decide (((rd_T32 l0 x9_1).f2) ≤ (ji12))) l0 (l0.length : Int) x9_1 ((rd_T32 l0 x9_1).f0) ((rd_T32 l0 x9_1).f1) ((rd_T32 l0 x9_1).f2)) = some r := by first | (rw [hji12] at H; exact H) | (simp only [hji12] at H ⊢; exact H)
                      have hji12_ : (if 32768 < x3_1 then 32768 else x3_1) = ji12 := hji12
                      have H' := Aside0.mk H
                      clear H
                      have hcz13_0 : w6.cell? ⟨gb102, 0, none⟩ = some (.int .u8 0) := (blk_cell BK102.out 0).trans rfl
                      have hcz13_1 : w6.cell? ⟨gb102, 1, none⟩ = some (.int .i64 0) := (blk_cell BK102.out 1).trans rfl
                      have hcz13_2 : w6.cell? ⟨gb102, 2, none⟩ = some (.int .i64 0) := (blk_cell BK102.out 2).trans rfl
                      have hfz13_0 := blk_frozen BK102.out 0
                      have hfz13_1 := blk_frozen BK102.out 1
                      have hfz13_2 := blk_frozen BK102.out 2
                      go_wp2
                      go_meet
                      case rel => exact ⟨_, (decide (((rd_T32 l0 x9_1).f2) ≤ (ji12))), (by first | rfl | (simp; done) | (simp only [← hji12] <;> (first | rfl | simp)) | (simp [*]; done)), H', ⟨by have := HK1.out; first | omega | exact Nat.le_refl _⟩, ⟨by (with_reducible repeat (first | refine blk_drewN ?_ _ | refine blk_drew ?_ | refine blk_alloc ?_ _)); refine blk_put (cs := #[.int .u8 ((rd_T32 l0 x9_1).f0), .int .i64 ((rd_T32 l0 x9_1).f1), .int .i64 0]) ?_ 2 _ rfl; (with_reducible repeat (first | refine blk_drewN ?_ _ | refine blk_drew ?_ | refine blk_alloc ?_ _)); refine blk_put (cs := #[.int .u8 ((rd_T32 l0 x9_1).f0), .int .i64 0, .int .i64 0]) ?_ 1 _ rfl; (with_reducible repeat (first | refine blk_drewN ?_ _ | refine blk_drew ?_ | refine blk_alloc ?_ _)); refine blk_put (cs := #[.int .u8 0, .int .i64 0, .int .i64 0]) ?_ 0 _ rfl; (with_reducible repeat (first | refine blk_drewN ?_ _ | refine blk_drew ?_ | refine blk_alloc ?_ _)); exact BK102.out⟩, ⟨by repeat (first | (with_reducible first | exact HB.out | apply below_alloc | apply pw_below_drewN | apply below_drew1 | refine below_set ?_ GE102.out) | exact HB.out)⟩⟩
                    · rw [if_neg c11] at H
                      have c11b0 : decide (1 ≤ ((rd_T32 l0 x9_1).f2)) = false := decide_eq_false c11
                      clear c11
                      have H' := Aside0.mk H
                      clear H
                      have hcz14_0 : w6.cell? ⟨gb102, 0, none⟩ = some (.int .u8 0) := (blk_cell BK102.out 0).trans rfl
                      have hcz14_1 : w6.cell? ⟨gb102, 1, none⟩ = some (.int .i64 0) := (blk_cell BK102.out 1).trans rfl
                      have hcz14_2 : w6.cell? ⟨gb102, 2, none⟩ = some (.int .i64 0) := (blk_cell BK102.out 2).trans rfl
                      have hfz14_0 := blk_frozen BK102.out 0
                      have hfz14_1 := blk_frozen BK102.out 1
                      have hfz14_2 := blk_frozen BK102.out 2
                      go_wp2
                      go_meet
                      case rel => exact ⟨_, (false), (by first | rfl | (simp; done) | (simp [*]; done)), H', ⟨by have := HK1.out; first | omega | exact Nat.le_refl _⟩, ⟨by (with_reducible repeat (first | refine blk_drewN ?_ _ | refine blk_drew ?_ | refine blk_alloc ?_ _)); refine blk_put (cs := #[.int .u8 ((rd_T32 l0 x9_1).f0), .int .i64 ((rd_T32 l0 x9_1).f1), .int .i64 0]) ?_ 2 _ rfl; (with_reducible repeat (first | refine blk_drewN ?_ _ | refine blk_drew ?_ | refine blk_alloc ?_ _)); refine blk_put (cs := #[.int .u8 ((rd_T32 l0 x9_1).f0), .int .i64 0, .int .i64 0]) ?_ 1 _ rfl; (with_reducible repeat (first | refine blk_drewN ?_ _ | refine blk_drew ?_ | refine blk_alloc ?_ _)); refine blk_put (cs := #[.int .u8 0, .int .i64 0, .int .i64 0]) ?_ 0 _ rfl; (with_reducible repeat (first | refine blk_drewN ?_ _ | refine blk_drew ?_ | refine blk_alloc ?_ _)); exact BK102.out⟩, ⟨by repeat (first | (with_reducible first | exact HB.out | apply below_alloc | apply pw_below_drewN | apply below_drew1 | refine below_set ?_ GE102.out) | exact HB.out)⟩⟩
                  · rw [if_neg c10] at H
                    have c10b0 : decide (((rd_T32 l0 x9_1).f1) ≤ 258) = false := decide_eq_false c10
                    clear c10
                    have H' := Aside0.mk H
                    clear H
                    have hcz15_0 : w6.cell? ⟨gb102, 0, none⟩ = some (.int .u8 0) := (blk_cell BK102.out 0).trans rfl
                    have hcz15_1 : w6.cell? ⟨gb102, 1, none⟩ = some (.int .i64 0) := (blk_cell BK102.out 1).trans rfl
                    have hcz15_2 : w6.cell? ⟨gb102, 2, none⟩ = some (.int .i64 0) := (blk_cell BK102.out 2).trans rfl
                    have hfz15_0 := blk_frozen BK102.out 0
                    have hfz15_1 := blk_frozen BK102.out 1
                    have hfz15_2 := blk_frozen BK102.out 2
                    go_wp2
                    go_meet
                    case rel => exact ⟨_, (false), (by first | rfl | (simp; done) | (simp [*]; done)), H', ⟨by have := HK1.out; first | omega | exact Nat.le_refl _⟩, ⟨by (with_reducible repeat (first | refine blk_drewN ?_ _ | refine blk_drew ?_ | refine blk_alloc ?_ _)); refine blk_put (cs := #[.int .u8 ((rd_T32 l0 x9_1).f0), .int .i64 ((rd_T32 l0 x9_1).f1), .int .i64 0]) ?_ 2 _ rfl; (with_reducible repeat (first | refine blk_drewN ?_ _ | refine blk_drew ?_ | refine blk_alloc ?_ _)); refine blk_put (cs := #[.int .u8 ((rd_T32 l0 x9_1).f0), .int .i64 0, .int .i64 0]) ?_ 1 _ rfl; (with_reducible repeat (first | refine blk_drewN ?_ _ | refine blk_drew ?_ | refine blk_alloc ?_ _)); refine blk_put (cs := #[.int .u8 0, .int .i64 0, .int .i64 0]) ?_ 0 _ rfl; (with_reducible repeat (first | refine blk_drewN ?_ _ | refine blk_drew ?_ | refine blk_alloc ?_ _)); exact BK102.out⟩, ⟨by repeat (first | (with_reducible first | exact HB.out | apply below_alloc | apply pw_below_drewN | apply below_drew1 | refine below_set ?_ GE102.out) | exact HB.out)⟩⟩
                · rw [if_neg c9] at H
                  have c9b0 : decide (3 ≤ ((rd_T32 l0 x9_1).f1)) = false := decide_eq_false c9
                  clear c9
                  have H' := Aside0.mk H
                  clear H
                  have hcz16_0 : w6.cell? ⟨gb102, 0, none⟩ = some (.int .u8 0) := (blk_cell BK102.out 0).trans rfl
                  have hcz16_1 : w6.cell? ⟨gb102, 1, none⟩ = some (.int .i64 0) := (blk_cell BK102.out 1).trans rfl
                  have hcz16_2 : w6.cell? ⟨gb102, 2, none⟩ = some (.int .i64 0) := (blk_cell BK102.out 2).trans rfl
                  have hfz16_0 := blk_frozen BK102.out 0
                  have hfz16_1 := blk_frozen BK102.out 1
                  have hfz16_2 := blk_frozen BK102.out 2
                  go_wp2
                  go_meet
                  case rel => exact ⟨_, (false), (by first | rfl | (simp; done) | (simp [*]; done)), H', ⟨by have := HK1.out; first | omega | exact Nat.le_refl _⟩, ⟨by (with_reducible repeat (first | refine blk_drewN ?_ _ | refine blk_drew ?_ | refine blk_alloc ?_ _)); refine blk_put (cs := #[.int .u8 ((rd_T32 l0 x9_1).f0), .int .i64 ((rd_T32 l0 x9_1).f1), .int .i64 0]) ?_ 2 _ rfl; (with_reducible repeat (first | refine blk_drewN ?_ _ | refine blk_drew ?_ | refine blk_alloc ?_ _)); refine blk_put (cs := #[.int .u8 ((rd_T32 l0 x9_1).f0), .int .i64 0, .int .i64 0]) ?_ 1 _ rfl; (with_reducible repeat (first | refine blk_drewN ?_ _ | refine blk_drew ?_ | refine blk_alloc ?_ _)); refine blk_put (cs := #[.int .u8 0, .int .i64 0, .int .i64 0]) ?_ 0 _ rfl; (with_reducible repeat (first | refine blk_drewN ?_ _ | refine blk_drew ?_ | refine blk_alloc ?_ _)); exact BK102.out⟩, ⟨by repeat (first | (with_reducible first | exact HB.out | apply below_alloc | apply pw_below_drewN | apply below_drew1 | refine below_set ?_ GE102.out) | exact HB.out)⟩⟩
              · rw [if_neg c8] at H
                have c8b0 : (((rd_T32 l0 x9_1).f0) == 0) = false := beq_eq_false_iff_ne.mpr c8
                have c8b1 : (((rd_T32 l0 x9_1).f0) != 0) = true := bne_iff_ne.mpr c8
                (first | rw [c8b0] | (simp only [i64_w, i32_w]; rw [c8b0]) | skip)
                have H' := Aside0.mk H
                clear H
                have hcz17_0 : w6.cell? ⟨gb102, 0, none⟩ = some (.int .u8 0) := (blk_cell BK102.out 0).trans rfl
                have hcz17_1 : w6.cell? ⟨gb102, 1, none⟩ = some (.int .i64 0) := (blk_cell BK102.out 1).trans rfl
                have hcz17_2 : w6.cell? ⟨gb102, 2, none⟩ = some (.int .i64 0) := (blk_cell BK102.out 2).trans rfl
                have hfz17_0 := blk_frozen BK102.out 0
                have hfz17_1 := blk_frozen BK102.out 1
                have hfz17_2 := blk_frozen BK102.out 2
                go_wp2
                go_meet
                case rel => exact ⟨_, (false), (by first | rfl | (simp; done) | (simp [*]; done)), H', ⟨by have := HK1.out; first | omega | exact Nat.le_refl _⟩, ⟨by (with_reducible repeat (first | refine blk_drewN ?_ _ | refine blk_drew ?_ | refine blk_alloc ?_ _)); refine blk_put (cs := #[.int .u8 ((rd_T32 l0 x9_1).f0), .int .i64 ((rd_T32 l0 x9_1).f1), .int .i64 0]) ?_ 2 _ rfl; (with_reducible repeat (first | refine blk_drewN ?_ _ | refine blk_drew ?_ | refine blk_alloc ?_ _)); refine blk_put (cs := #[.int .u8 ((rd_T32 l0 x9_1).f0), .int .i64 0, .int .i64 0]) ?_ 1 _ rfl; (with_reducible repeat (first | refine blk_drewN ?_ _ | refine blk_drew ?_ | refine blk_alloc ?_ _)); refine blk_put (cs := #[.int .u8 0, .int .i64 0, .int .i64 0]) ?_ 0 _ rfl; (with_reducible repeat (first | refine blk_drewN ?_ _ | refine blk_drew ?_ | refine blk_alloc ?_ _)); exact BK102.out⟩, ⟨by repeat (first | (with_reducible first | exact HB.out | apply below_alloc | apply pw_below_drewN | apply below_drew1 | refine below_set ?_ GE102.out) | exact HB.out)⟩⟩
            case rest =>
              clear HC5
              try clear c1
              try clear p1
              try clear q1
              try clear hx1
              try clear c2
              try clear c2b0
              try clear p2
              try clear c3
              try clear c3b0
              try clear c4
              try clear c4b0
              try clear c8
              try clear c8b0
              try clear c8b1
              try clear c9
              try clear c9b0
              try clear c10
              try clear c10b0
              try clear p10
              try clear q10
              try clear hx10
              try clear c11
              try clear c11b0
              try clear c14
              try clear hcz13_0
              try clear hcz13_1
              try clear hcz13_2
              try clear hcz14_0
              try clear hcz14_1
              try clear hcz14_2
              try clear hcz15_0
              try clear hcz15_1
              try clear hcz15_2
              try clear hcz16_0
              try clear hcz16_1
              try clear hcz16_2
              try clear hcz17_0
              try clear hcz17_1
              try clear hcz17_2
              try clear hcz7_0
              try clear hcz7_1
              try clear hcz7_2
              try clear hfz13_0
              try clear hfz13_1
              try clear hfz13_2
              try clear hfz14_0
              try clear hfz14_1
              try clear hfz14_2
              try clear hfz15_0
              try clear hfz15_1
              try clear hfz15_2
              try clear hfz16_0
              try clear hfz16_1
              try clear hfz16_2
              try clear hfz17_0
              try clear hfz17_1
              try clear hfz17_2
              try clear hfz7_0
              try clear hfz7_1
              try clear hfz7_2
              try clear hx101_0
              try clear hx101_1
              try clear hx101_2
              try clear p101
              try clear q101
              obtain ⟨kq, x6_4, rfl, HA, HJ4, BK102, HB⟩ := hcut
              cases kq with
              | zero => exact absurd HA.out (by simp [match_Right.j1])
              | succ kj4 =>
                have H := HA.out
                clear HA
                simp only [match_Right.j1] at H
                have HC18 := Aside0.mk H
                clear H
                go_upto_region 7 with (fail)
                go_cut [38] (fun v38 wc => ∃ (kq : Nat) (x38_17 : Bool), v38 = .bool x38_17 ∧ Aside0 (match_Right.j2 kq x3_1 x6_4 l0 (l0.length : Int) x9_1 x38_17 ((rd_T32 l0 x9_1).f0) ((rd_T32 l0 x9_1).f1) ((rd_T32 l0 x9_1).f2) = some r) ∧ Aside0 (kq ≤ kj4) ∧ Aside0 (wc.heap[gb102]? = some (.cells #[.int .u8 ((rd_T32 l0 x9_1).f0), .int .i64 ((rd_T32 l0 x9_1).f1), .int .i64 ((rd_T32 l0 x9_1).f2)] 32 (0, 0))) ∧ Aside0 (Below w.heap.size w wc))
                case first =>
                  have H := HC18.out
                  clear HC18
                  by_cases c19 : ((rd_T32 l0 x9_1).f1) = 0
                  · rw [if_pos c19] at H
                    have c19b0 : (((rd_T32 l0 x9_1).f1) == 0) = true := beq_iff_eq.mpr c19
                    have c19b1 : (((rd_T32 l0 x9_1).f1) != 0) = false := bne_eq_false_iff_eq.mpr c19
                    clear c19
                    (first | rw [c19b0] | (simp only [i64_w, i32_w]; rw [c19b0]) | skip)
                    have H' := Aside0.mk H
                    clear H
                    have hcz20_0 : wc.cell? ⟨gb102, 0, none⟩ = some (.int .u8 ((rd_T32 l0 x9_1).f0)) := (blk_cell BK102.out 0).trans rfl
                    have hcz20_1 : wc.cell? ⟨gb102, 1, none⟩ = some (.int .i64 ((rd_T32 l0 x9_1).f1)) := (blk_cell BK102.out 1).trans rfl
                    have hcz20_2 : wc.cell? ⟨gb102, 2, none⟩ = some (.int .i64 ((rd_T32 l0 x9_1).f2)) := (blk_cell BK102.out 2).trans rfl
                    have hfz20_0 := blk_frozen BK102.out 0
                    have hfz20_1 := blk_frozen BK102.out 1
                    have hfz20_2 := blk_frozen BK102.out 2
                    go_wp2
                    go_meet
                    case rel => exact ⟨_, ((((rd_T32 l0 x9_1).f2) == 0)), (by first | rfl | (simp; done) | (simp [*]; done)), H', ⟨by have := HK1.out; have := HJ4.out; first | omega | exact Nat.le_refl _⟩, ⟨by (with_reducible repeat (first | refine blk_drewN ?_ _ | refine blk_drew ?_ | refine blk_alloc ?_ _)); exact BK102.out⟩, ⟨by repeat (first | (with_reducible first | exact HB.out | apply below_alloc | apply pw_below_drewN | apply below_drew1 | refine below_set ?_ GE102.out) | exact HB.out)⟩⟩
                  · rw [if_neg c19] at H
                    have c19b0 : (((rd_T32 l0 x9_1).f1) == 0) = false := beq_eq_false_iff_ne.mpr c19
                    have c19b1 : (((rd_T32 l0 x9_1).f1) != 0) = true := bne_iff_ne.mpr c19
                    (first | rw [c19b0] | (simp only [i64_w, i32_w]; rw [c19b0]) | skip)
                    have H' := Aside0.mk H
                    clear H
                    have hcz21_0 : wc.cell? ⟨gb102, 0, none⟩ = some (.int .u8 ((rd_T32 l0 x9_1).f0)) := (blk_cell BK102.out 0).trans rfl
                    have hcz21_1 : wc.cell? ⟨gb102, 1, none⟩ = some (.int .i64 ((rd_T32 l0 x9_1).f1)) := (blk_cell BK102.out 1).trans rfl
                    have hcz21_2 : wc.cell? ⟨gb102, 2, none⟩ = some (.int .i64 ((rd_T32 l0 x9_1).f2)) := (blk_cell BK102.out 2).trans rfl
                    have hfz21_0 := blk_frozen BK102.out 0
                    have hfz21_1 := blk_frozen BK102.out 1
                    have hfz21_2 := blk_frozen BK102.out 2
                    go_wp2
                    go_meet
                    case rel => exact ⟨_, (false), (by first | rfl | (simp; done) | (simp [*]; done)), H', ⟨by have := HK1.out; have := HJ4.out; first | omega | exact Nat.le_refl _⟩, ⟨by (with_reducible repeat (first | refine blk_drewN ?_ _ | refine blk_drew ?_ | refine blk_alloc ?_ _)); exact BK102.out⟩, ⟨by repeat (first | (with_reducible first | exact HB.out | apply below_alloc | apply pw_below_drewN | apply below_drew1 | refine below_set ?_ GE102.out) | exact HB.out)⟩⟩
                case rest =>
                  clear HC18
                  try clear c1
                  try clear p1
                  try clear q1
                  try clear hx1
                  try clear c2
                  try clear c2b0
                  try clear p2
                  try clear c3
                  try clear c3b0
                  try clear c4
                  try clear c4b0
                  try clear c8
                  try clear c8b0
                  try clear c8b1
                  try clear c9
                  try clear c9b0
                  try clear c10
                  try clear c10b0
                  try clear p10
                  try clear q10
                  try clear hx10
                  try clear c11
                  try clear c11b0
                  try clear c14
                  try clear c19
                  try clear c19b0
                  try clear c19b1
                  try clear hcz13_0
                  try clear hcz13_1
                  try clear hcz13_2
                  try clear hcz14_0
                  try clear hcz14_1
                  try clear hcz14_2
                  try clear hcz15_0
                  try clear hcz15_1
                  try clear hcz15_2
                  try clear hcz16_0
                  try clear hcz16_1
                  try clear hcz16_2
                  try clear hcz17_0
                  try clear hcz17_1
                  try clear hcz17_2
                  try clear hcz20_0
                  try clear hcz20_1
                  try clear hcz20_2
                  try clear hcz21_0
                  try clear hcz21_1
                  try clear hcz21_2
                  try clear hcz7_0
                  try clear hcz7_1
                  try clear hcz7_2
                  try clear hfz13_0
                  try clear hfz13_1
                  try clear hfz13_2
                  try clear hfz14_0
                  try clear hfz14_1
                  try clear hfz14_2
                  try clear hfz15_0
                  try clear hfz15_1
                  try clear hfz15_2
                  try clear hfz16_0
                  try clear hfz16_1
                  try clear hfz16_2
                  try clear hfz17_0
                  try clear hfz17_1
                  try clear hfz17_2
                  try clear hfz20_0
                  try clear hfz20_1
                  try clear hfz20_2
                  try clear hfz21_0
                  try clear hfz21_1
                  try clear hfz21_2
                  try clear hfz7_0
                  try clear hfz7_1
                  try clear hfz7_2
                  try clear hx101_0
                  try clear hx101_1
                  try clear hx101_2
                  try clear p1
                  try clear p10
                  try clear p101
                  try clear p2
                  try clear q1
                  try clear q10
                  try clear q101
                  obtain ⟨kq, x38_17, rfl, HA, HJ17, BK102, HB⟩ := hcut
                  cases kq with
                  | zero => exact absurd HA.out (by simp [match_Right.j2])
                  | succ kj17 =>
                    have H := HA.out
                    clear HA
                    simp only [match_Right.j2] at H
                    by_cases c22 : x38_17 = true
                    · subst c22
                      have H1 : (match_Right.l0 kj17 (wrap64 (x3_1 + 1)) l0 (l0.length : Int) (wrap64 (x9_1 + 1))) = some r := by rw [if_pos rfl] at H; exact H
                      clear H
                      have H := H1
                      clear H1
                      have H' := Aside0.mk H
                      clear H
                      go_wp2
                      go_roundg kj17
                      case measure => have := HK1.out; have := HJ4.out; have := HJ17.out; omega
                      case rel => exact ⟨(wrap64 (x3_1 + 1)), (wrap64 (x9_1 + 1)), (by first | rfl | (simp; done) | (simp [*]; done)), (by first | rfl | (simp; done) | (simp [*]; done)), H', ⟨by have := HK1.out; have := HJ4.out; have := HJ17.out; omega⟩, ⟨by repeat (first | (with_reducible first | exact HB.out | apply below_alloc | apply pw_below_drewN | apply below_drew1 | refine below_set ?_ GE102.out) | exact HB.out)⟩⟩
                    · replace c22 := Bool.eq_false_iff.mpr c22
                      subst c22
                      have H1 : (if x6_4 = true then (match_Right.l0 kj17 (wrap64 (x3_1 + ((rd_T32 l0 x9_1).f1))) l0 (l0.length : Int) (wrap64 (x9_1 + 1))) else (some false)) = some r := by rw [if_neg (show ¬ (false = true) by decide)] at H; exact H
                      clear H
                      have H := H1
                      clear H1
                      by_cases c23 : x6_4 = true
                      · subst c23
                        have H1 : (match_Right.l0 kj17 (wrap64 (x3_1 + ((rd_T32 l0 x9_1).f1))) l0 (l0.length : Int) (wrap64 (x9_1 + 1))) = some r := by rw [if_pos rfl] at H; exact H
                        clear H
                        have H := H1
                        clear H1
                        have H' := Aside0.mk H
                        clear H
                        have hcz24_0 : wc.cell? ⟨gb102, 0, none⟩ = some (.int .u8 ((rd_T32 l0 x9_1).f0)) := (blk_cell BK102.out 0).trans rfl
                        have hcz24_1 : wc.cell? ⟨gb102, 1, none⟩ = some (.int .i64 ((rd_T32 l0 x9_1).f1)) := (blk_cell BK102.out 1).trans rfl
                        have hcz24_2 : wc.cell? ⟨gb102, 2, none⟩ = some (.int .i64 ((rd_T32 l0 x9_1).f2)) := (blk_cell BK102.out 2).trans rfl
                        have hfz24_0 := blk_frozen BK102.out 0
                        have hfz24_1 := blk_frozen BK102.out 1
                        have hfz24_2 := blk_frozen BK102.out 2
                        go_wp2
                        go_roundg kj17
                        case measure => have := HK1.out; have := HJ4.out; have := HJ17.out; omega
                        case rel => exact ⟨(wrap64 (x3_1 + ((rd_T32 l0 x9_1).f1))), (wrap64 (x9_1 + 1)), (by first | rfl | (simp; done) | (simp [*]; done)), (by first | rfl | (simp; done) | (simp [*]; done)), H', ⟨by have := HK1.out; have := HJ4.out; have := HJ17.out; omega⟩, ⟨by repeat (first | (with_reducible first | exact HB.out | apply below_alloc | apply pw_below_drewN | apply below_drew1 | refine below_set ?_ GE102.out) | exact HB.out)⟩⟩
                      · replace c23 := Bool.eq_false_iff.mpr c23
                        subst c23
                        have H1 : (some false) = some r := by rw [if_neg (show ¬ (false = true) by decide)] at H; exact H
                        clear H
                        have H := H1
                        clear H1
                        obtain rfl := Option.some.inj H
                        go_wp2
                        go_ret
                        exact ⟨by first | rfl | (simp [errW_none, errW_some] <;> rfl) | (simp [*, errW_none, errW_some] <;> rfl), by repeat (first | (with_reducible first | exact HB.out | apply below_alloc | apply pw_below_drewN | apply below_drew1 | refine below_set ?_ GE102.out) | exact HB.out)⟩
          · rw [if_neg c4] at H
            exact absurd H (by simp)
        · rw [if_neg c3] at H
          exact absurd H (by simp)
      · rw [if_neg c2] at H
        have c2b0 : decide (x9_1 < (l0.length : Int)) = false := decide_eq_false c2
        clear c2
        obtain rfl := Option.some.inj H
        go_wp2
        go_ret
        exact ⟨by first | rfl | (simp [errW_none, errW_some] <;> rfl) | (simp [*, errW_none, errW_some] <;> rfl), by repeat (first | (with_reducible first | exact HB.out | apply below_alloc | apply pw_below_drewN | apply below_drew1) | exact HB.out)⟩

end Go.Proofs.Ytohkjiellcikhaa.P07
