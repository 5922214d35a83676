-- Printed for this claim by a program over the kit's print; some callees are given by texts of mine. Lean checks it.
import Derived.Test.YtohkjiellcikhaaP07x0
import Derived.Test.YtohkjiellcikhaaP07x2
namespace Go.Proofs.Ytohkjiellcikhaa.P07
open Go.RowKit Go.Proofs.YtohkjiellcikhaaW.PrintWords Go.Proofs.YtohkjiellcikhaaW.PrintLast Go.Proofs.YtohkjiellcikhaaW.PrintMore
attribute [local go_sem] max2_int min2_int max_two min_two max_three min_three max_four min_four   -- for this text's walks alone
set_option linter.unusedVariables false
set_option linter.unusedSimpArgs false

/-! ### match_Tell: function 12 -/
mutual
def match_Tell.l0 : Nat → List Int → List (S32) → Int → Int → Option (List Int × Bool)
  | 0, _, _, _, _ => none
  | k + 1, x4, x10, x11, x12 => if x12 < x11 then (if 0 ≤ x12 then (if x12 < (x10.length : Int) then (if ((rd_T32 x10 x12).f1) = 0 then (if x4.length < 140737488355328 then (match_Tell.j1 k (x4 ++ [(rd_T32 x10 x12).f0]) x10 x11 x12 ((rd_T32 x10 x12).f0) ((rd_T32 x10 x12).f1) ((rd_T32 x10 x12).f2)) else (none)) else (match_Tell.j1 k x4 x10 x11 x12 ((rd_T32 x10 x12).f0) ((rd_T32 x10 x12).f1) ((rd_T32 x10 x12).f2))) else (none)) else (none)) else (some (x4, true))
def match_Tell.j1 : Nat → List Int → List (S32) → Int → Int → Int → Int → Int → Option (List Int × Bool)
  | 0, _, _, _, _, _, _, _ => none
  | k + 1, x4, x10, x11, x12, x106000, x106001, x106002 => match_Tell.l1 k x4 x10 x11 x12 x106001 0 x106000 x106001 x106002
def match_Tell.l1 : Nat → List Int → List (S32) → Int → Int → Int → Int → Int → Int → Int → Option (List Int × Bool)
  | 0, _, _, _, _, _, _, _, _, _ => none
  | k + 1, x4, x10, x11, x12, x25, x26, x106000, x106001, x106002 => if x26 < x25 then (if 0 ≤ (wrap64 ((x4.length : Int) - x106002)) then (if (wrap64 ((x4.length : Int) - x106002)) < (x4.length : Int) then (if x4.length < 140737488355328 then (match_Tell.l1 k (x4 ++ [rd x4 (wrap64 ((x4.length : Int) - x106002))]) x10 x11 x12 x25 (wrap64 (x26 + 1)) x106000 x106001 x106002) else (none)) else (none)) else (none)) else (match_Tell.l0 k x4 x10 x11 (wrap64 (x12 + 1)))
end
def match_Tell.f (k : Nat) (l0 : List (S32)) : Option (List Int × Bool) := (match_Right.f k l0).bind fun t103 => (if t103 = true then (match_Tell.l0 k ([] : List Int) l0 (l0.length : Int) 0) else (some (([] : List Int), false)))
theorem match_Tell.mono_l : ∀ k, (∀ y0 y1 y2 y3, LeO (match_Tell.l0 k y0 y1 y2 y3) (match_Tell.l0 (k + 1) y0 y1 y2 y3)) ∧ (∀ y0 y1 y2 y3 y4 y5 y6, LeO (match_Tell.j1 k y0 y1 y2 y3 y4 y5 y6) (match_Tell.j1 (k + 1) y0 y1 y2 y3 y4 y5 y6)) ∧ (∀ y0 y1 y2 y3 y4 y5 y6 y7 y8, LeO (match_Tell.l1 k y0 y1 y2 y3 y4 y5 y6 y7 y8) (match_Tell.l1 (k + 1) y0 y1 y2 y3 y4 y5 y6 y7 y8))
  | 0 => ⟨fun _ _ _ _ r h => by simp [match_Tell.l0] at h, fun _ _ _ _ _ _ _ r h => by simp [match_Tell.j1] at h, fun _ _ _ _ _ _ _ _ _ r h => by simp [match_Tell.l1] at h⟩
  | k + 1 => by
    obtain ⟨ih0, ih1, ih2⟩ := match_Tell.mono_l k
    refine ⟨?_, ?_, ?_⟩
    · intro y0 y1 y2 y3
      unfold match_Tell.l0
      repeat' first
      | (with_reducible exact ih0 _ _ _ _)
      | (with_reducible exact ih1 _ _ _ _ _ _ _)
      | (with_reducible exact ih2 _ _ _ _ _ _ _ _ _)
      | (with_reducible exact match_Right.mono _ _)
      | (with_reducible exact LeO.refl _)
      | (with_reducible exact LeO.none _)
      | (with_reducible refine LeO.ite ?_ ?_)
      | (with_reducible refine LeO.bind ?_ (fun _ => ?_))
      | exact ih0 _ _ _ _
      | exact ih1 _ _ _ _ _ _ _
      | exact ih2 _ _ _ _ _ _ _ _ _
      | exact match_Right.mono _ _
      | exact LeO.none _
      | refine LeO.ite ?_ ?_
      | refine LeO.bind ?_ (fun _ => ?_)
    · intro y0 y1 y2 y3 y4 y5 y6
      unfold match_Tell.j1
      repeat' first
      | (with_reducible exact ih0 _ _ _ _)
      | (with_reducible exact ih1 _ _ _ _ _ _ _)
      | (with_reducible exact ih2 _ _ _ _ _ _ _ _ _)
      | (with_reducible exact match_Right.mono _ _)
      | (with_reducible exact LeO.refl _)
      | (with_reducible exact LeO.none _)
      | (with_reducible refine LeO.ite ?_ ?_)
      | (with_reducible refine LeO.bind ?_ (fun _ => ?_))
      | exact ih0 _ _ _ _
      | exact ih1 _ _ _ _ _ _ _
      | exact ih2 _ _ _ _ _ _ _ _ _
      | exact match_Right.mono _ _
      | exact LeO.none _
      | refine LeO.ite ?_ ?_
      | refine LeO.bind ?_ (fun _ => ?_)
    · intro y0 y1 y2 y3 y4 y5 y6 y7 y8
      unfold match_Tell.l1
      repeat' first
      | (with_reducible exact ih0 _ _ _ _)
      | (with_reducible exact ih1 _ _ _ _ _ _ _)
      | (with_reducible exact ih2 _ _ _ _ _ _ _ _ _)
      | (with_reducible exact match_Right.mono _ _)
      | (with_reducible exact LeO.refl _)
      | (with_reducible exact LeO.none _)
      | (with_reducible refine LeO.ite ?_ ?_)
      | (with_reducible refine LeO.bind ?_ (fun _ => ?_))
      | exact ih0 _ _ _ _
      | exact ih1 _ _ _ _ _ _ _
      | exact ih2 _ _ _ _ _ _ _ _ _
      | exact match_Right.mono _ _
      | exact LeO.none _
      | refine LeO.ite ?_ ?_
      | refine LeO.bind ?_ (fun _ => ?_)
theorem match_Tell.mono : ∀ a0 k, LeO (match_Tell.f k a0) (match_Tell.f (k + 1) a0) := by
  intro a0 k
  obtain ⟨ih0, ih1, ih2⟩ := match_Tell.mono_l k
  unfold match_Tell.f
  repeat' first
      | (with_reducible exact ih0 _ _ _ _)
      | (with_reducible exact ih1 _ _ _ _ _ _ _)
      | (with_reducible exact ih2 _ _ _ _ _ _ _ _ _)
      | (with_reducible exact match_Right.mono _ _)
      | (with_reducible exact LeO.refl _)
      | (with_reducible exact LeO.none _)
      | (with_reducible refine LeO.ite ?_ ?_)
      | (with_reducible refine LeO.bind ?_ (fun _ => ?_))
      | exact ih0 _ _ _ _
      | exact ih1 _ _ _ _ _ _ _
      | exact ih2 _ _ _ _ _ _ _ _ _
      | exact match_Right.mono _ _
      | exact LeO.none _
      | refine LeO.ite ?_ ?_
      | refine LeO.bind ?_ (fun _ => ?_)
set_option maxHeartbeats 8000000 in
set_option maxRecDepth 100000 in
theorem match_Tell.calls (k : Nat) (A0 : Option Addr) (c0 : Nat) (l0 : List (S32)) (r1 : List Int) (r2 : Bool) (w : World) (hr0 : Kd.C k32 w A0 l0.length l0) (hc0 : l0.length ≤ c0) (h : match_Tell.f k l0 = some (r1, r2)) :
    Calls Try.prog 12 #[.slice A0 l0.length c0] w fun e w' => ∃ v0_ : Value, e = .returned (.tuple #[v0_, .bool r2]) ∧ Kd.R (Kd.int .u8) 5 w' w.heap.size (fun _ => True) v0_ r1 ∧ Below w.heap.size w w' := by
  have hu32 := Try.underlying32
  have HR0 := Aside0.mk hr0
  have HC0 := Aside0.mk hc0
  clear hr0 hc0
  have HB := Aside0.mk (Below.refl w.heap.size w)
  have H : ((match_Right.f k l0).bind fun t103 => (if t103 = true then (match_Tell.l0 k ([] : List Int) l0 (l0.length : Int) 0) else (some (([] : List Int), false)))) = some (r1, r2) := h
  clear h
  replace H := Option.bind_eq_some_iff.mp H
  obtain ⟨t103, A20, H⟩ := H
  replace H : (if t103 = true then (match_Tell.l0 k ([] : List Int) l0 (l0.length : Int) 0) else (some (([] : List Int), false))) = some (r1, r2) := H
  have A2 := Aside0.mk A20
  clear A20
  by_cases c3 : t103 = true
  · subst c3
    have H1 : (match_Tell.l0 k ([] : List Int) l0 (l0.length : Int) 0) = some (r1, r2) := by rw [if_pos rfl] at H; exact H
    clear H
    have H := H1
    clear H1
    have H' := Aside0.mk H
    clear H
    go_enter Try.func12, Try.ntmps12
    go_wp2_with (first | ((with_reducible refine gate_callee (f := 14) rfl ?_); refine goesL_ (some 8) rfl rfl Try.func14 (by kernel_rfl) rfl #[.slice A0 l0.length c0] rfl (by (try simp only [List.map_toArray, List.map_cons, List.map_nil]); first | done | rfl | (simp only [List.length_drop, List.length_take]; rfl)) ?_; (with_reducible refine (match_Right.calls k _ _ l0 true _ ?side1 ?side2 A2.out).mono ?_); (case side1 => repeat (first | exact HR0.out | (with_reducible refine Kd.C_alloc ?_ _) | (with_reducible refine Kd.C_drewN ?_ _) | (with_reducible refine Kd.C_drew ?_))); (case side2 => exact HC0.out); rintro e w4 ⟨rfl, hb⟩; refine ⟨_, rfl, ?_⟩; have n0_ := Aside0.mk (below_step (by repeat (first | (with_reducible first | exact HB.out | apply below_alloc | apply pw_below_drewN | apply below_drew1) | exact HB.out)) hb); clear HB; have HB := n0_; clear n0_; (try clear hb); (try clear hb2); (try clear hk); (try clear hi)))
    go_loopg [4, 12] k (fun kq v4 v12 w' => ∃ (x4_1 : List Int) (x12_1 : Int), v12 = .int .i64 x12_1 ∧ Aside0 (match_Tell.l0 kq x4_1 l0 (l0.length : Int) x12_1 = some (r1, r2)) ∧ Aside0 (kq ≤ k) ∧ Aside0 (Kd.R (Kd.int .u8) 5 w' w.heap.size (fun _ => True) v4 x4_1) ∧ Aside0 (Below w.heap.size w w'))
    case atStart => exact ⟨(([] : List Int)), (0), (by first | rfl | (simp; done) | (simp [*]; done)), H', ⟨Nat.le_refl _⟩, ⟨by first | exact Kd.R_nil _ _ _ _ _ | exact Kd.N_nil _ _ _ _ _ | exact Kd.V_nil _ _ _ _ _ | exact Kd.Q_nil _ _ _ _ _ | exact Kd.S_nil _ _ _ _ _⟩, ⟨by repeat (first | (with_reducible first | exact HB.out | apply below_alloc | apply pw_below_drewN | apply below_drew1) | exact HB.out)⟩⟩
    case round =>
      clear H'
      try clear c1
      try clear p2
      try clear c3
      obtain ⟨x4_1, x12_1, rfl, HA, HK1, HO_4, HB⟩ := hrel
      cases gk with
      | zero => exact absurd HA.out (by simp [match_Tell.l0])
      | succ k1 =>
        have H := HA.out
        clear HA
        simp only [match_Tell.l0] at H
        by_cases c5 : x12_1 < (l0.length : Int)
        · rw [if_pos c5] at H
          have c5b0 : decide (x12_1 < (l0.length : Int)) = true := decide_eq_true c5
          clear c5
          by_cases c6 : 0 ≤ x12_1
          · rw [if_pos c6] at H
            have c6b0 : decide (0 ≤ x12_1) = true := decide_eq_true c6
            clear c6
            by_cases c7 : x12_1 < (l0.length : Int)
            · rw [if_pos c7] at H
              have c7b0 : decide (x12_1 < (l0.length : Int)) = true := decide_eq_true c7
              clear c7
              have HC8 := Aside0.mk H
              clear H
              have p104 : 0 ≤ (x12_1 : Int) := of_decide_eq_true (by first | (with_reducible assumption) | assumption)
              have q104 : x12_1 < (l0.length : Int) := of_decide_eq_true (by first | (with_reducible assumption) | assumption)
              obtain ⟨ad104, e104, hx104_0, hx104_1, hx104_2⟩ := at_T32 HR0.out x12_1 p104 q104
              cases e104
              replace hx104_0 := (HB.out.cell (World.block_lt_of_cell? w _ hx104_0)).trans hx104_0
              replace hx104_1 := (HB.out.cell (World.block_lt_of_cell? w _ hx104_1)).trans hx104_1
              replace hx104_2 := (HB.out.cell (World.block_lt_of_cell? w _ hx104_2)).trans hx104_2
              replace p104 := eq_true p104
              replace q104 := eq_true q104
              go_upto_if 18 with (first | ((with_reducible refine gate_dst (N := 6) rfl ?_); refine box_event ?hg (N := 6) ?hd (cs := #[.int .u8 0, .int .i64 0, .int .i64 0]) (t := 32) ?hr ?_; (case hd => rfl); (case hg => rfl); (case hr => first | (go_simp; done) | (go_simp; rfl)); intro gb105 hg w9 hbox hb; have n0_ := Aside0.mk (Kd.R_below (by (with_reducible repeat (first | apply Kd.R_alloc | apply Kd.R_drewN | apply Kd.R_drew)); exact HO_4.out) hb); have n1_ := Aside0.mk (below_step (by repeat (first | (with_reducible first | exact HB.out | apply below_alloc | apply pw_below_drewN | apply below_drew1) | exact HB.out)) hb); have n2_ := Aside0.mk (hbox); have n3_ := Aside0.mk ((by rw [hg]; exact (below_size (by repeat (first | (with_reducible first | exact HB.out | apply below_alloc | apply pw_below_drewN | apply below_drew1) | exact HB.out))) : w.heap.size ≤ gb105)); have n4_ := Aside0.mk ((by rw [hg]; exact (below_size (by repeat (first | (with_reducible first | exact HB.out | apply below_alloc | apply pw_below_drewN | apply below_drew1) | exact HB.out))) : w.heap.size ≤ gb105)); clear HO_4; clear HB; have HO_4 := n0_; have HB := n1_; have BK105 := n2_; have GW105 := n3_; have GE105 := n4_; clear n0_ n1_ n2_ n3_ n4_; clear hb hbox hg; have hcz10_0 : w9.cell? ⟨gb105, 0, none⟩ = some (.int .u8 0) := (blk_cell BK105.out 0).trans rfl; have hcz10_1 : w9.cell? ⟨gb105, 1, none⟩ = some (.int .i64 0) := (blk_cell BK105.out 1).trans rfl; have hcz10_2 : w9.cell? ⟨gb105, 2, none⟩ = some (.int .i64 0) := (blk_cell BK105.out 2).trans rfl; have hfz10_0 := blk_frozen BK105.out 0; have hfz10_1 := blk_frozen BK105.out 1; have hfz10_2 := blk_frozen BK105.out 2))
              (try simp only [Act.put, List.setIfInBounds_toArray, List.set_cons_zero, List.set_cons_succ])
              go_cut [4] (fun v4 wc => ∃ (kq : Nat) (x4_7 : List Int), Aside0 (match_Tell.j1 kq x4_7 l0 (l0.length : Int) x12_1 ((rd_T32 l0 x12_1).f0) ((rd_T32 l0 x12_1).f1) ((rd_T32 l0 x12_1).f2) = some (r1, r2)) ∧ Aside0 (kq ≤ k1) ∧ Aside0 (Kd.R (Kd.int .u8) 5 wc w.heap.size (fun _ => True) v4 x4_7) ∧ Aside0 (wc.heap[gb105]? = some (.cells #[.int .u8 ((rd_T32 l0 x12_1).f0), .int .i64 ((rd_T32 l0 x12_1).f1), .int .i64 ((rd_T32 l0 x12_1).f2)] 32 (0, 0))) ∧ Aside0 (Below w.heap.size w wc))
              case first =>
                have H := HC8.out
                clear HC8
                by_cases c11 : ((rd_T32 l0 x12_1).f1) = 0
                · rw [if_pos c11] at H
                  have c11b0 : (((rd_T32 l0 x12_1).f1) == 0) = true := beq_iff_eq.mpr c11
                  have c11b1 : (((rd_T32 l0 x12_1).f1) != 0) = false := bne_eq_false_iff_eq.mpr c11
                  clear c11
                  (first | rw [c11b0] | (simp only [i64_w, i32_w]; rw [c11b0]) | skip)
                  by_cases c12 : x4_1.length < 140737488355328
                  · rw [if_pos c12] at H
                    have LMc12 := Aside0.mk c12
                    clear c12
                    obtain ⟨y106, hy106⟩ : ∃ y_ : List Int, y_ = (x4_1 ++ [(rd_T32 l0 x12_1).f0]) := ⟨_, rfl⟩
                    replace H : (match_Tell.j1 k1 y106 l0 (l0.length : Int) x12_1 ((rd_T32 l0 x12_1).f0) ((rd_T32 l0 x12_1).f1) ((rd_T32 l0 x12_1).f2)) = some (r1, r2) := by first | (rw [hy106]; with_reducible exact H) | (have H2_ := (Option.bind_some _ _).symm.trans H; rw [hy106]; with_reducible exact H2_) | (have H2_ := (Option.bind_some _ _).symm.trans H; with_reducible exact H2_) | with_reducible exact H | (rw [hy106]; exact H) | exact H
                    have Ny106 := Aside0.mk hy106
                    clear hy106
                    have H' := Aside0.mk H
                    clear H
                    have hcz13_0 : w9.cell? ⟨gb105, 0, none⟩ = some (.int .u8 0) := (blk_cell BK105.out 0).trans rfl
                    have hcz13_1 : w9.cell? ⟨gb105, 1, none⟩ = some (.int .i64 0) := (blk_cell BK105.out 1).trans rfl
                    have hcz13_2 : w9.cell? ⟨gb105, 2, none⟩ = some (.int .i64 0) := (blk_cell BK105.out 2).trans rfl
                    have hfz13_0 := blk_frozen BK105.out 0
                    have hfz13_1 := blk_frozen BK105.out 1
                    have hfz13_2 := blk_frozen BK105.out 2
                    go_wp2_with (first | ((with_reducible refine gate_builtin (b := .append) (xs := #[.tmp 19, .tmp 22]) rfl ?_); at_builtin; refine Kd.R_append (Kd.int .u8) (w0 := w) w.heap.size rfl (.tmp 19) (.tmp 22) 24 5 (.int .u8 0) 1 rfl Try.underlying24 info5 rfl (by decide) (by omega) u4 x4_1 ((rd_T32 l0 x12_1).f0) [.int .u8 ((rd_T32 l0 x12_1).f0)] (fun _ => True) (fun _ => False) rfl (by first | (go_simp; done) | (go_simp; rfl)) ?aP (fun _ hk => hk.elim) ?aF ?aO ?aB ?aS ?aL ?_; (case aP => exact rfl); (case aB => exact (by repeat (first | (with_reducible first | exact HB.out | apply below_alloc | apply pw_below_drewN | apply below_drew1 | refine below_set ?_ GE105.out) | exact HB.out))); (case aF => exact (fun _ _ => trivial)); (case aO => exact (by (with_reducible repeat (first | apply Kd.R_alloc | apply Kd.R_drewN | apply Kd.R_drew)); exact Kd.R_mono (Kd.R_far (p := ⟨gb105, 2, none⟩) (Kd.R_far (p := ⟨gb105, 1, none⟩) (Kd.R_far (p := ⟨gb105, 0, none⟩) (Kd.R_types HO_4.out BK105.out (by decide)) (fun _ hk => hk.2) (.int .u8 ((rd_T32 l0 x12_1).f0))) (fun _ hk => hk.2) (.int .i64 ((rd_T32 l0 x12_1).f1))) (fun _ hk => hk.2) (.int .i64 ((rd_T32 l0 x12_1).f2))) (fun _ hk => trivial))); (case aS => exact (below_size (by repeat (first | (with_reducible first | exact HB.out | apply below_alloc | apply pw_below_drewN | apply below_drew1 | refine below_set ?_ GE105.out) | exact HB.out)))); (case aL => have := LMc12.out; omega); intro v107 w14 ho hb hg hat; rw [← Ny106.out] at ho; have n0_ := Aside0.mk (blk_grown (g := gb105) (o := .cells #[.int .u8 ((rd_T32 l0 x12_1).f0), .int .i64 ((rd_T32 l0 x12_1).f1), .int .i64 ((rd_T32 l0 x12_1).f2)] 32 (0, 0)) (by (with_reducible repeat (first | refine blk_drewN ?_ _ | refine blk_drew ?_ | refine blk_alloc ?_ _)); refine blk_put (cs := #[.int .u8 ((rd_T32 l0 x12_1).f0), .int .i64 ((rd_T32 l0 x12_1).f1), .int .i64 0]) ?_ 2 _ rfl; (with_reducible repeat (first | refine blk_drewN ?_ _ | refine blk_drew ?_ | refine blk_alloc ?_ _)); refine blk_put (cs := #[.int .u8 ((rd_T32 l0 x12_1).f0), .int .i64 0, .int .i64 0]) ?_ 1 _ rfl; (with_reducible repeat (first | refine blk_drewN ?_ _ | refine blk_drew ?_ | refine blk_alloc ?_ _)); refine blk_put (cs := #[.int .u8 0, .int .i64 0, .int .i64 0]) ?_ 0 _ rfl; (with_reducible repeat (first | refine blk_drewN ?_ _ | refine blk_drew ?_ | refine blk_alloc ?_ _)); exact BK105.out) hg (Kd.R_ne HO_4.out BK105.out (by decide))); have n1_ := Aside0.mk (hb); have n2_ := Aside0.mk (ho); clear BK105; clear HB; clear HO_4; have BK105 := n0_; have HB := n1_; have HO108 := n2_; clear n0_ n1_ n2_; clear ho hb hg hat))
                    go_meet
                    case rel => exact ⟨_, (y106), H', ⟨by have := HK1.out; first | omega | exact Nat.le_refl _⟩, ⟨by (with_reducible repeat (first | apply Kd.R_alloc | apply Kd.R_drewN | apply Kd.R_drew)); exact HO108.out⟩, ⟨by (with_reducible repeat (first | refine blk_drewN ?_ _ | refine blk_drew ?_ | refine blk_alloc ?_ _)); exact BK105.out⟩, ⟨by repeat (first | (with_reducible first | exact HB.out | apply below_alloc | apply pw_below_drewN | apply below_drew1 | refine below_set ?_ GE105.out) | exact HB.out)⟩⟩
                  · rw [if_neg c12] at H
                    exact absurd H (by simp)
                · rw [if_neg c11] at H
                  have c11b0 : (((rd_T32 l0 x12_1).f1) == 0) = false := beq_eq_false_iff_ne.mpr c11
                  have c11b1 : (((rd_T32 l0 x12_1).f1) != 0) = true := bne_iff_ne.mpr c11
                  (first | rw [c11b0] | (simp only [i64_w, i32_w]; rw [c11b0]) | skip)
                  have H' := Aside0.mk H
                  clear H
                  go_wp2
                  go_meet
                  case rel => exact ⟨_, (x4_1), H', ⟨by have := HK1.out; first | omega | exact Nat.le_refl _⟩, ⟨by (with_reducible repeat (first | apply Kd.R_alloc | apply Kd.R_drewN | apply Kd.R_drew)); exact Kd.R_mono (Kd.R_far (p := ⟨gb105, 2, none⟩) (Kd.R_far (p := ⟨gb105, 1, none⟩) (Kd.R_far (p := ⟨gb105, 0, none⟩) (Kd.R_types HO_4.out BK105.out (by decide)) (fun _ hk => hk.2) (.int .u8 ((rd_T32 l0 x12_1).f0))) (fun _ hk => hk.2) (.int .i64 ((rd_T32 l0 x12_1).f1))) (fun _ hk => hk.2) (.int .i64 ((rd_T32 l0 x12_1).f2))) (fun _ hk => trivial)⟩, ⟨by (with_reducible repeat (first | refine blk_drewN ?_ _ | refine blk_drew ?_ | refine blk_alloc ?_ _)); refine blk_put (cs := #[.int .u8 ((rd_T32 l0 x12_1).f0), .int .i64 ((rd_T32 l0 x12_1).f1), .int .i64 0]) ?_ 2 _ rfl; (with_reducible repeat (first | refine blk_drewN ?_ _ | refine blk_drew ?_ | refine blk_alloc ?_ _)); refine blk_put (cs := #[.int .u8 ((rd_T32 l0 x12_1).f0), .int .i64 0, .int .i64 0]) ?_ 1 _ rfl; (with_reducible repeat (first | refine blk_drewN ?_ _ | refine blk_drew ?_ | refine blk_alloc ?_ _)); refine blk_put (cs := #[.int .u8 0, .int .i64 0, .int .i64 0]) ?_ 0 _ rfl; (with_reducible repeat (first | refine blk_drewN ?_ _ | refine blk_drew ?_ | refine blk_alloc ?_ _)); exact BK105.out⟩, ⟨by repeat (first | (with_reducible first | exact HB.out | apply below_alloc | apply pw_below_drewN | apply below_drew1 | refine below_set ?_ GE105.out) | exact HB.out)⟩⟩
              case rest =>
                clear HC8
                try clear c1
                try clear p1
                try clear q1
                try clear hx1
                try clear p2
                try clear c3
                try clear c5
                try clear c5b0
                try clear c6
                try clear c6b0
                try clear c7
                try clear c7b0
                try clear p10
                try clear q10
                try clear hx10
                try clear c11
                try clear c11b0
                try clear c11b1
                try clear c12
                try clear c14
                try clear hcz10_0
                try clear hcz10_1
                try clear hcz10_2
                try clear hcz13_0
                try clear hcz13_1
                try clear hcz13_2
                try clear hfz10_0
                try clear hfz10_1
                try clear hfz10_2
                try clear hfz13_0
                try clear hfz13_1
                try clear hfz13_2
                try clear hx104_0
                try clear hx104_1
                try clear hx104_2
                try clear p104
                try clear p2
                try clear q104
                obtain ⟨kq, x4_7, HA, HJ7, HO_4, BK105, HB⟩ := hcut
                cases kq with
                | zero => exact absurd HA.out (by simp [match_Tell.j1])
                | succ kj7 =>
                  have H := HA.out
                  clear HA
                  simp only [match_Tell.j1] at H
                  have H' := Aside0.mk H
                  clear H
                  have hcz15_0 : wc.cell? ⟨gb105, 0, none⟩ = some (.int .u8 ((rd_T32 l0 x12_1).f0)) := (blk_cell BK105.out 0).trans rfl
                  have hcz15_1 : wc.cell? ⟨gb105, 1, none⟩ = some (.int .i64 ((rd_T32 l0 x12_1).f1)) := (blk_cell BK105.out 1).trans rfl
                  have hcz15_2 : wc.cell? ⟨gb105, 2, none⟩ = some (.int .i64 ((rd_T32 l0 x12_1).f2)) := (blk_cell BK105.out 2).trans rfl
                  have hfz15_0 := blk_frozen BK105.out 0
                  have hfz15_1 := blk_frozen BK105.out 1
                  have hfz15_2 := blk_frozen BK105.out 2
                  go_wp2
                  go_loopg [4, 26] kj7 (fun kq v4 v26 w' => ∃ (x4_3 : List Int) (x26_3 : Int), v26 = .int .i64 x26_3 ∧ Aside0 (match_Tell.l1 kq x4_3 l0 (l0.length : Int) x12_1 ((rd_T32 l0 x12_1).f1) x26_3 ((rd_T32 l0 x12_1).f0) ((rd_T32 l0 x12_1).f1) ((rd_T32 l0 x12_1).f2) = some (r1, r2)) ∧ Aside0 (kq ≤ kj7) ∧ Aside0 (Kd.R (Kd.int .u8) 5 w' w.heap.size (fun _ => True) v4 x4_3) ∧ Aside0 (w'.heap[gb105]? = some (.cells #[.int .u8 ((rd_T32 l0 x12_1).f0), .int .i64 ((rd_T32 l0 x12_1).f1), .int .i64 ((rd_T32 l0 x12_1).f2)] 32 (0, 0))) ∧ Aside0 (Below w.heap.size w w'))
                  case atStart => exact ⟨(x4_7), (0), (by first | rfl | (simp; done) | (simp [*]; done)), H', ⟨Nat.le_refl _⟩, ⟨by (with_reducible repeat (first | apply Kd.R_alloc | apply Kd.R_drewN | apply Kd.R_drew)); exact HO_4.out⟩, ⟨by (with_reducible repeat (first | refine blk_drewN ?_ _ | refine blk_drew ?_ | refine blk_alloc ?_ _)); exact BK105.out⟩, ⟨by repeat (first | (with_reducible first | exact HB.out | apply below_alloc | apply pw_below_drewN | apply below_drew1 | refine below_set ?_ GE105.out) | exact HB.out)⟩⟩
                  case round =>
                    clear H'
                    try clear c1
                    try clear p1
                    try clear q1
                    try clear hx1
                    try clear p2
                    try clear c3
                    try clear c5
                    try clear c5b0
                    try clear c6
                    try clear c6b0
                    try clear c7
                    try clear c7b0
                    try clear p10
                    try clear q10
                    try clear hx10
                    try clear c11
                    try clear c11b0
                    try clear c11b1
                    try clear c12
                    try clear c14
                    try clear hcz10_0
                    try clear hcz10_1
                    try clear hcz10_2
                    try clear hcz13_0
                    try clear hcz13_1
                    try clear hcz13_2
                    try clear hcz15_0
                    try clear hcz15_1
                    try clear hcz15_2
                    try clear hfz10_0
                    try clear hfz10_1
                    try clear hfz10_2
                    try clear hfz13_0
                    try clear hfz13_1
                    try clear hfz13_2
                    try clear hfz15_0
                    try clear hfz15_1
                    try clear hfz15_2
                    try clear hx104_0
                    try clear hx104_1
                    try clear hx104_2
                    try clear p1
                    try clear p10
                    try clear p104
                    try clear p2
                    try clear q1
                    try clear q10
                    try clear q104
                    obtain ⟨x4_3, x26_3, rfl, HA, HK3, HO_4, BK105, HB⟩ := hrel
                    cases gk with
                    | zero => exact absurd HA.out (by simp [match_Tell.l1])
                    | succ k3 =>
                      have H := HA.out
                      clear HA
                      simp only [match_Tell.l1] at H
                      by_cases c16 : x26_3 < ((rd_T32 l0 x12_1).f1)
                      · rw [if_pos c16] at H
                        have c16b0 : decide (x26_3 < ((rd_T32 l0 x12_1).f1)) = true := decide_eq_true c16
                        clear c16
                        obtain ⟨ji17, hji17⟩ : ∃ j_ : Int, (wrap64 ((x4_3.length : Int) - ((rd_T32 l0 x12_1).f2))) = j_ := ⟨_, rfl⟩
                        replace H : (if 0 ≤ (ji17) then (if (ji17) < (x4_3.length : Int) then (if x4_3.length < 140737488355328 then (match_Tell.l1 k3 (x4_3 ++ [rd x4_3 (ji17)]) l0 (l0.length : Int) x12_1 ((rd_T32 l0 x12_1).f1) (wrap64 (x26_3 + 1)) ((rd_T32 l0 x12_1).f0) ((rd_T32 l0 x12_1).f1) ((rd_T32 l0 x12_1).f2)) else (none)) else (none)) else (none)) = some (r1, r2) := by first | (rw [hji17] at H; exact H) | (simp only [hji17] at H ⊢; exact H)
                        have hji17w : (IntKind.i64.wrap ((x4_3.length : Int) - ((rd_T32 l0 x12_1).f2))) = ji17 := (i64_w _).trans hji17
                        by_cases c18 : 0 ≤ (ji17)
                        · rw [if_pos c18] at H
                          have c18b0 : decide (0 ≤ (ji17)) = true := decide_eq_true c18
                          clear c18
                          by_cases c19 : (ji17) < (x4_3.length : Int)
                          · rw [if_pos c19] at H
                            have c19b0 : decide ((ji17) < (x4_3.length : Int)) = true := decide_eq_true c19
                            clear c19
                            by_cases c20 : x4_3.length < 140737488355328
                            · rw [if_pos c20] at H
                              have LMc20 := Aside0.mk c20
                              clear c20
                              obtain ⟨y110, hy110⟩ : ∃ y_ : List Int, y_ = (x4_3 ++ [rd x4_3 (ji17)]) := ⟨_, rfl⟩
                              replace H : (match_Tell.l1 k3 y110 l0 (l0.length : Int) x12_1 ((rd_T32 l0 x12_1).f1) (wrap64 (x26_3 + 1)) ((rd_T32 l0 x12_1).f0) ((rd_T32 l0 x12_1).f1) ((rd_T32 l0 x12_1).f2)) = some (r1, r2) := by first | (rw [hy110]; with_reducible exact H) | (have H2_ := (Option.bind_some _ _).symm.trans H; rw [hy110]; with_reducible exact H2_) | (have H2_ := (Option.bind_some _ _).symm.trans H; with_reducible exact H2_) | with_reducible exact H | (rw [hy110]; exact H) | exact H
                              have Ny110 := Aside0.mk hy110
                              clear hy110
                              have H' := Aside0.mk H
                              clear H
                              obtain ⟨Ao21, co21, eo21⟩ := Kd.R_slice HO_4.out
                              subst eo21
                              have hcz22_0 : wr.cell? ⟨gb105, 0, none⟩ = some (.int .u8 ((rd_T32 l0 x12_1).f0)) := (blk_cell BK105.out 0).trans rfl
                              have hcz22_1 : wr.cell? ⟨gb105, 1, none⟩ = some (.int .i64 ((rd_T32 l0 x12_1).f1)) := (blk_cell BK105.out 1).trans rfl
                              have hcz22_2 : wr.cell? ⟨gb105, 2, none⟩ = some (.int .i64 ((rd_T32 l0 x12_1).f2)) := (blk_cell BK105.out 2).trans rfl
                              have hfz22_0 := blk_frozen BK105.out 0
                              have hfz22_1 := blk_frozen BK105.out 1
                              have hfz22_2 := blk_frozen BK105.out 2
                              have p109 : 0 ≤ ((ji17) : Int) := of_decide_eq_true (by first | (with_reducible assumption) | assumption)
                              have q109 : (ji17) < (x4_3.length : Int) := of_decide_eq_true (by first | (with_reducible assumption) | assumption)
                              obtain ⟨ad109, e109, hx109_0⟩ := Kd.at_int (Kd.R_reads' HO_4.out).2.2 (ji17) p109 q109
                              cases e109
                              replace p109 := eq_true p109
                              replace q109 := eq_true q109
                              go_wp2_with (first | ((with_reducible refine gate_builtin (b := .append) (xs := #[.tmp 28, .tmp 37]) rfl ?_); at_builtin; refine Kd.R_append (Kd.int .u8) (w0 := w) w.heap.size rfl (.tmp 28) (.tmp 37) 24 5 (.int .u8 0) 1 rfl Try.underlying24 info5 rfl (by decide) (by omega) (.slice (some ad109) x4_3.length co21) x4_3 (rd x4_3 (ji17)) [.int .u8 (rd x4_3 (ji17))] (fun _ => True) (fun _ => False) rfl rfl ?aP (fun _ hk => hk.elim) ?aF ?aO ?aB ?aS ?aL ?_; (case aP => exact rfl); (case aB => exact (by repeat (first | (with_reducible first | exact HB.out | apply below_alloc | apply pw_below_drewN | apply below_drew1 | refine below_set ?_ GE105.out) | exact HB.out))); (case aF => exact (fun _ _ => trivial)); (case aO => exact (by (with_reducible repeat (first | apply Kd.R_alloc | apply Kd.R_drewN | apply Kd.R_drew)); exact HO_4.out)); (case aS => exact (below_size (by repeat (first | (with_reducible first | exact HB.out | apply below_alloc | apply pw_below_drewN | apply below_drew1 | refine below_set ?_ GE105.out) | exact HB.out)))); (case aL => have := LMc20.out; omega); intro v111 w23 ho hb hg hat; rw [← Ny110.out] at ho; have n0_ := Aside0.mk (blk_grown (g := gb105) (o := .cells #[.int .u8 ((rd_T32 l0 x12_1).f0), .int .i64 ((rd_T32 l0 x12_1).f1), .int .i64 ((rd_T32 l0 x12_1).f2)] 32 (0, 0)) (by (with_reducible repeat (first | refine blk_drewN ?_ _ | refine blk_drew ?_ | refine blk_alloc ?_ _)); exact BK105.out) hg (Kd.R_ne HO_4.out BK105.out (by decide))); have n1_ := Aside0.mk (hb); have n2_ := Aside0.mk (ho); clear BK105; clear HB; clear HO_4; have BK105 := n0_; have HB := n1_; have HO112 := n2_; clear n0_ n1_ n2_; clear ho hb hg hat))
                              go_roundg k3
                              case measure => have := HK1.out; have := HJ7.out; have := HK3.out; omega
                              case rel => exact ⟨(y110), (wrap64 (x26_3 + 1)), (by first | rfl | (simp; done) | (simp [*]; done)), H', ⟨by have := HK1.out; have := HJ7.out; have := HK3.out; omega⟩, ⟨by (with_reducible repeat (first | apply Kd.R_alloc | apply Kd.R_drewN | apply Kd.R_drew)); exact HO112.out⟩, ⟨by (with_reducible repeat (first | refine blk_drewN ?_ _ | refine blk_drew ?_ | refine blk_alloc ?_ _)); exact BK105.out⟩, ⟨by repeat (first | (with_reducible first | exact HB.out | apply below_alloc | apply pw_below_drewN | apply below_drew1 | refine below_set ?_ GE105.out) | exact HB.out)⟩⟩
                            · rw [if_neg c20] at H
                              exact absurd H (by simp)
                          · rw [if_neg c19] at H
                            exact absurd H (by simp)
                        · rw [if_neg c18] at H
                          exact absurd H (by simp)
                      · rw [if_neg c16] at H
                        have c16b0 : decide (x26_3 < ((rd_T32 l0 x12_1).f1)) = false := decide_eq_false c16
                        clear c16
                        have H' := Aside0.mk H
                        clear H
                        go_wp2
                        go_roundg k3
                        case measure => have := HK1.out; have := HJ7.out; have := HK3.out; omega
                        case rel => exact ⟨(x4_3), (wrap64 (x12_1 + 1)), (by first | rfl | (simp; done) | (simp [*]; done)), H', ⟨by have := HK1.out; have := HJ7.out; have := HK3.out; omega⟩, ⟨by (with_reducible repeat (first | apply Kd.R_alloc | apply Kd.R_drewN | apply Kd.R_drew)); exact HO_4.out⟩, ⟨by repeat (first | (with_reducible first | exact HB.out | apply below_alloc | apply pw_below_drewN | apply below_drew1 | refine below_set ?_ GE105.out) | exact HB.out)⟩⟩
            · rw [if_neg c7] at H
              exact absurd H (by simp)
          · rw [if_neg c6] at H
            exact absurd H (by simp)
        · rw [if_neg c5] at H
          have c5b0 : decide (x12_1 < (l0.length : Int)) = false := decide_eq_false c5
          clear c5
          simp only [Option.some.injEq, Prod.mk.injEq] at H
          obtain ⟨rfl, rfl⟩ := H
          go_wp2
          go_ret2
          exact ⟨_, by first | rfl | (simp [errW_none, errW_some] <;> rfl) | (simp [*, errW_none, errW_some] <;> rfl), by (with_reducible repeat (first | apply Kd.R_alloc | apply Kd.R_drewN | apply Kd.R_drew)); exact HO_4.out, by repeat (first | (with_reducible first | exact HB.out | apply below_alloc | apply pw_below_drewN | apply below_drew1) | exact HB.out)⟩
  · replace c3 := Bool.eq_false_iff.mpr c3
    subst c3
    have H1 : (some (([] : List Int), false)) = some (r1, r2) := by rw [if_neg (show ¬ (false = true) by decide)] at H; exact H
    clear H
    have H := H1
    clear H1
    simp only [Option.some.injEq, Prod.mk.injEq] at H
    obtain ⟨rfl, rfl⟩ := H
    go_enter Try.func12, Try.ntmps12
    go_wp2_with (first | ((with_reducible refine gate_callee (f := 14) rfl ?_); refine goesL_ (some 8) rfl rfl Try.func14 (by kernel_rfl) rfl #[.slice A0 l0.length c0] rfl (by (try simp only [List.map_toArray, List.map_cons, List.map_nil]); first | done | rfl | (simp only [List.length_drop, List.length_take]; rfl)) ?_; (with_reducible refine (match_Right.calls k _ _ l0 false _ ?side1 ?side2 A2.out).mono ?_); (case side1 => repeat (first | exact HR0.out | (with_reducible refine Kd.C_alloc ?_ _) | (with_reducible refine Kd.C_drewN ?_ _) | (with_reducible refine Kd.C_drew ?_))); (case side2 => exact HC0.out); rintro e w24 ⟨rfl, hb⟩; refine ⟨_, rfl, ?_⟩; have n0_ := Aside0.mk (below_step (by repeat (first | (with_reducible first | exact HB.out | apply below_alloc | apply pw_below_drewN | apply below_drew1) | exact HB.out)) hb); clear HB; have HB := n0_; clear n0_; (try clear hb); (try clear hb2); (try clear hk); (try clear hi)))
    go_ret2
    exact ⟨_, by first | rfl | (simp [errW_none, errW_some] <;> rfl) | (simp [*, errW_none, errW_some] <;> rfl), by first | exact Kd.R_nil _ _ _ _ _ | exact Kd.N_nil _ _ _ _ _ | exact Kd.V_nil _ _ _ _ _ | exact Kd.Q_nil _ _ _ _ _ | exact Kd.S_nil _ _ _ _ _, by repeat (first | (with_reducible first | exact HB.out | apply below_alloc | apply pw_below_drewN | apply below_drew1) | exact HB.out)⟩

end Go.Proofs.Ytohkjiellcikhaa.P07
