/- The walk of the finder's best. -/
import Derived.Test.YtohkjiellcikhaaFinderN
import Derived.WalkMore
namespace Go.Proofs.Ytohkjiellcikhaa.P07
open Go.RowKit Go.Proofs.YtohkjiellcikhaaW.PrintWords Go.Proofs.YtohkjiellcikhaaW.PrintLast Go.Proofs.YtohkjiellcikhaaW.PrintMore Go.Proofs.Ytohkjiellcikhaa MF
set_option linter.unusedVariables false
set_option linter.unusedSimpArgs false

theorem best_of {l : List Int} {s : St} {T a L B : Nat} (h : ¬ l.length < a + 3) (e : bestR l s T a = (L, B)) : best l s T a = if L < 3 then (0, 0) else (L, B) := by
  unfold best
  rw [if_neg h, e]
theorem bestL_zero (l : List Int) (a T : Nat) (ah : Nat → Nat) (f L B tr : Nat) : bestL l a T ah f 0 L B tr = (L, B) := by
  cases f <;> simp [bestL]
theorem common_at (w0 w : World) (g ga : Nat) (A : Option Addr) (c cap : Nat) (l : List Int) (T : Nat) (s : St) (hF : IsFinder w0 w g ga A c cap l T s) (hd : DataAt w A l) (hB : AllB l) (hl : l.length ≤ 140737488355328) (a b : Nat) (hab : a < b) (hb : b ≤ l.length) (n : Nat) (hn : common l a b = n) :
    Calls Try.prog 27 #[.pointer (some ⟨g, 0, none⟩), .int .i64 (a : Int), .int .i64 (b : Int)] w fun e w' => e = .returned (.int .i64 (n : Int)) ∧ ∃ m, w' = w.drewN m := by
  subst hn
  exact finder_common w0 w g ga A c cap l T s hF hd hB hl a b hab hb

theorem bestL_brk {l : List Int} {a T : Nat} {ah : Nat → Nat} {f q lg bk tr : Nat} (h : 32768 < a - q ∨ (T ≤ tr ∧ 64 < a - q)) : bestL l a T ah (f + 1) (q + 1) lg bk tr = (lg, bk) := by
  rw [bestL, if_neg (by omega), Nat.add_sub_cancel, if_pos h]
theorem bestL_258 {l : List Int} {a T : Nat} {ah : Nat → Nat} {f q lg bk tr N : Nat} (h : ¬ (32768 < a - q ∨ (T ≤ tr ∧ 64 < a - q))) (hN : common l q a = N) (h1 : lg < N) (h2 : N = 258) : bestL l a T ah (f + 1) (q + 1) lg bk tr = (N, a - q) := by
  rw [bestL, if_neg (by omega), Nat.add_sub_cancel, if_neg h, hN, if_pos h1, if_pos h2, if_pos h1]
theorem bestL_258' {l : List Int} {a T : Nat} {ah : Nat → Nat} {f q lg bk tr N : Nat} (h : ¬ (32768 < a - q ∨ (T ≤ tr ∧ 64 < a - q))) (hN : common l q a = N) (h1 : ¬ lg < N) (h2 : lg = 258) : bestL l a T ah (f + 1) (q + 1) lg bk tr = (lg, bk) := by
  rw [bestL, if_neg (by omega), Nat.add_sub_cancel, if_neg h, hN, if_neg h1, if_pos h2, if_neg h1]
theorem bestL_on {l : List Int} {a T : Nat} {ah : Nat → Nat} {f q lg bk tr N : Nat} (h : ¬ (32768 < a - q ∨ (T ≤ tr ∧ 64 < a - q))) (hN : common l q a = N) (h1 : lg < N) (h2 : ¬ N = 258) : bestL l a T ah (f + 1) (q + 1) lg bk tr = bestL l a T ah f (ah q) N (a - q) (tr + 1) := by
  rw [bestL, if_neg (by omega), Nat.add_sub_cancel, if_neg h, hN, if_pos h1, if_neg h2, if_pos h1]
theorem bestL_on' {l : List Int} {a T : Nat} {ah : Nat → Nat} {f q lg bk tr N : Nat} (h : ¬ (32768 < a - q ∨ (T ≤ tr ∧ 64 < a - q))) (hN : common l q a = N) (h1 : ¬ lg < N) (h2 : ¬ lg = 258) : bestL l a T ah (f + 1) (q + 1) lg bk tr = bestL l a T ah f (ah q) lg bk (tr + 1) := by
  rw [bestL, if_neg (by omega), Nat.add_sub_cancel, if_neg h, hN, if_neg h1, if_neg h2, if_neg h1]

theorem run_cut0 (W : World) (ad : Addr) (n c a : Nat) (ha : a ≤ n) (hc : n ≤ c) (hlt : a < c) : (Instr.slice 24 (.slice (some ad) n c) (some (.int .i64 (a : Int))) none none).run Try.prog W = .ok (.slice (some (ad.add a)) (n - a) (c - a)) W := by
  have h2 : ¬ (c = a) := by omega
  obtain ⟨i, hi, _, hz, _⟩ := info_parts (show (Try.prog.info? 5).map (fun i => (i.zero, i.size, i.bytes)) = some (some (.int .u8 0), 1, 1) by kernel_rfl)
  have hel : Try.prog.elem 24 = 5 := by simp [Program.elem, Try.underlying24]
  have hu : Try.prog.underlying 24 = some (.slice (Try.prog.elem 24)) := by rw [hel]; exact Try.underlying24
  rw [run_slice_l W 24 (some ad) n c hu .i64 (a : Int) (Int.natCast_nonneg _) (by omega), hel]
  simp [sizeOf, typeInfo, hi, hz, sliced, Result.andThen, h2]
theorem run_cut (W : World) (ad : Addr) (n c a : Nat) (ha : a ≤ n) (hc : n ≤ c) (hlt : a < c) : (Instr.sliceAt 24 (.slice (some ad) n c) (some (.int .i64 (a : Int))) none none).run Try.prog W = .ok (.slice (some (ad.add a)) (n - a) (c - a)) W := by
  have hel : Try.prog.elem 24 = 5 := by simp [Program.elem, Try.underlying24]
  have hu : Try.prog.underlying 24 = some (.slice (Try.prog.elem 24)) := by rw [hel]; exact Try.underlying24
  rw [run_sliceAt_slice _ _ _ _ _ _ hu]
  exact run_cut0 W ad n c a ha hc hlt

set_option maxHeartbeats 2000000 in
set_option maxRecDepth 100000 in
theorem finder_best (w0 w : World) (g ga : Nat) (A : Option Addr) (c cap : Nat) (l : List Int) (T : Nat) (s : St) (hF : IsFinder w0 w g ga A c cap l T s) (hd : Kd.C (Kd.int .u8) w A l.length l) (hcl : l.length ≤ c) (hB : AllB l) (hl : l.length ≤ 140737488355328) (a : Nat) (ha : a < l.length) (hs : s.Inv a) (hT : T ≤ 1000) (n b : Nat) (hnb : best l s T a = (n, b)) :
    Calls Try.prog 22 #[.pointer (some ⟨g, 0, none⟩), .int .i64 (a : Int)] w fun e w' => e = .returned (.tuple #[.int .i64 (n : Int), .int .i64 (b : Int)]) ∧ ∃ m, w' = w.drewN m := by
  have HF := Aside.mk hF
  obtain ⟨h0, h8193, h8194⟩ := hF.cells
  have HD := Aside.mk (DataAt.of hd hB)
  by_cases hs3 : l.length < a + 3
  · have t1 : decide ((l.length : Int) < (a : Int) + 3) = true := decide_eq_true (by omega)
    have e : best l s T a = (0, 0) := by unfold best; rw [if_pos hs3]
    rw [hnb] at e
    obtain ⟨rfl, rfl⟩ : n = 0 ∧ b = 0 := by injection e with e1 e2; exact ⟨e1, e2⟩
    clear hF e hd hnb
    go_enter Try.func22, Try.ntmps22
    go_wp2_with fail
    go_step3
    go_wp2_with fail
    try rw [Exit.noGoto_ret]
    go_ret2
    exact ⟨rfl, 0, rfl⟩
  · have t1 : decide ((l.length : Int) < (a : Int) + 3) = false := decide_eq_false (by omega)
    obtain ⟨ad, rfl, hcut⟩ := data_cut hd (by omega) hcl ha
    have HCUT := Aside.mk hcut
    obtain ⟨r, hr⟩ : ∃ r, room l a = r := ⟨_, rfl⟩
    have hrl : r < 8192 := by subst hr; exact room_lt _ _
    have hlast := (hF.last r hrl).1
    have hll := hs.1 r
    have HR := Aside.mk hr
    have HS := Aside.mk hs
    have HBO := Aside.mk (fun {L B} e => hnb ▸ best_of (T := T) (L := L) (B := B) hs3 e)
    have HBR := Aside.mk (show bestL l a T s.ahead (a + 1) (s.last r) 0 0 0 = bestR l s T a by subst hr; rfl)
    have hac : a ≤ c := by omega
    obtain ⟨v, hv⟩ : ∃ v, s.last r = v := ⟨_, rfl⟩
    rw [hv] at hlast hll HBR
    have hia := fun W' => run_last W' g r hrl
    have hcut2 := fun W' => run_cut W' ad l.length c a (by omega) hcl (by omega)
    have hcut3 := fun W' => run_cut0 W' ad l.length c a (by omega) hcl (by omega)
    have hcca : ¬ (c = a) := by omega
    have hcca' : (c == a) = false := by rw [beq_eq_false_iff_ne]; omega
    have hac2 : 0 ≤ (a : Int) := by omega
    clear hF hr hv hd hcut hs hnb
    go_enter Try.func22, Try.ntmps22
    go_wp2_with fail
    go_step3
    go_wp2_with fail
    go_step3
    go_wp2_with fail
    go_quiet ((go_at_call 26; exact Calls.quiet_of (room_calls _ ad l c a _ hB (by omega) (Kd.C_drewN HCUT.out _) hcl rfl r HR.out)))
    go_wp2_with fail
    go_loopw [6, 7, 8, 9, 10] (fun v6 v7 v8 v9 v10 wr => ∃ f p lg bk tr m : Nat, v9 = .int .i64 p ∧ v6 = .int .i64 lg ∧ v7 = .int .i64 bk ∧ v8 = .int .i64 tr ∧ p ≤ a ∧ lg ≤ 258 ∧ bk ≤ a ∧ tr + p ≤ a ∧ p ≤ f ∧ Aside (bestL l a T s.ahead f p lg bk tr = bestR l s T a) ∧ wr = w.drewN m) (fun _ _ _ v9 _ _ => (intOf v9).toNat)
    case atStart => exact ⟨a + 1, v, 0, 0, 0, _, rfl, rfl, rfl, rfl, hll, by omega, by omega, by omega, by omega, HBR, rfl⟩
    case round =>
      obtain ⟨f, p, lg, bk, tr, m, rfl, rfl, rfl, rfl, hpa, hlg, hbk, htr, hpf, HC, rfl⟩ := hrel
      clear HBR hlast hll
      by_cases hp0 : p = 0
      · subst hp0
        have HX := Aside.mk (HC.out.symm.trans (bestL_zero l a T s.ahead f lg bk tr))
        rw [show ((0 : Nat) : Int) = 0 from rfl]
        have hx := HBO.out HX.out
        by_cases hL : lg < 3
        · rw [if_pos hL] at hx
          have hxn : n = 0 := congrArg Prod.fst hx
          have hxb : b = 0 := congrArg Prod.snd hx
          have HXN := Aside.mk hxn; have HXB := Aside.mk hxb
          have tL : decide ((lg : Int) < 3) = true := decide_eq_true (by omega)
          have tL' : decide (lg < 3) = true := decide_eq_true hL
          clear hx hxn hxb
          go_wp2_with fail
          try rw [Exit.noGoto_ret]
          go_ret2
          exact ⟨by rw [HXN.out, HXB.out]; first | rfl | (congr 3; omega) | (simp; omega), _, by first | rfl | exact World.drewN_drewN .. | (rw [World.drewN_drewN, World.drewN_drewN])⟩
        · rw [if_neg hL] at hx
          have hxn : n = lg := congrArg Prod.fst hx
          have hxb : b = bk := congrArg Prod.snd hx
          have HXN := Aside.mk hxn; have HXB := Aside.mk hxb
          have tL : decide ((lg : Int) < 3) = false := decide_eq_false (by omega)
          have tL' : decide (lg < 3) = false := decide_eq_false hL
          clear hx hxn hxb
          go_wp2_with fail
          try rw [Exit.noGoto_ret]
          go_ret2
          exact ⟨by rw [HXN.out, HXB.out]; first | rfl | (congr 3; omega) | (simp; omega), _, by first | rfl | exact World.drewN_drewN .. | (rw [World.drewN_drewN, World.drewN_drewN])⟩
      · obtain ⟨q, rfl⟩ : ∃ q, p = q + 1 := ⟨p - 1, by omega⟩
        obtain ⟨f, rfl⟩ : ∃ f', f = f' + 1 := ⟨f - 1, by omega⟩
        have hqa : q < a := by omega
        have hal : a ≤ l.length := by omega
        have hqf : q ≤ f := by omega
        have hql : q < l.length := by omega
        have hdq : 0 ≤ (a : Int) - (q : Int) := by omega
        have hdq2 : (a : Int) - (q : Int) ≤ 140737488355328 := by omega
        have htr2 : tr ≤ 140737488355328 := by omega
        rw [show ((q + 1 : Nat) : Int) = (q : Int) + 1 from rfl]
        have tp : decide (0 < (q : Int) + 1) = true := decide_eq_true (by omega)
        have hah : s.ahead q ≤ q := HS.out.2 q
        have hcell := fun m' => ((HF.out.drewN m').ahead q hql).1
        have hcell0 := ((HF.out).ahead q hql).1
        clear hcell
        have h8194' : (w.drewN m).cell? ⟨g, 8194, none⟩ = some (.int .i64 (T : Int)) := h8194
        have hbkd : (((a - q : Nat)) : Int) = (a : Int) - (q : Int) := by omega
        have HBKD := Aside.mk hbkd; clear hbkd
        by_cases cA : 32768 < a - q
        · have tA : decide (32768 < (a : Int) - (q : Int)) = true := decide_eq_true (by omega)
          have HX := Aside.mk (HC.out.symm.trans (bestL_brk (.inl cA)))
          have hx := HBO.out HX.out
          by_cases hL : lg < 3
          · rw [if_pos hL] at hx
            have hxn : n = 0 := congrArg Prod.fst hx
            have hxb : b = 0 := congrArg Prod.snd hx
            have HXN := Aside.mk hxn; have HXB := Aside.mk hxb
            have tL : decide ((lg : Int) < 3) = true := decide_eq_true (by omega)
            have tL' : decide (lg < 3) = true := decide_eq_true hL
            clear hx hxn hxb
            go_wp2_with fail
            try rw [Exit.noGoto_ret]
            go_ret2
            exact ⟨by rw [HXN.out, HXB.out]; first | rfl | (congr 3; omega) | (simp; omega), _, by first | rfl | exact World.drewN_drewN .. | (rw [World.drewN_drewN, World.drewN_drewN])⟩
          · rw [if_neg hL] at hx
            have hxn : n = lg := congrArg Prod.fst hx
            have hxb : b = bk := congrArg Prod.snd hx
            have HXN := Aside.mk hxn; have HXB := Aside.mk hxb
            have tL : decide ((lg : Int) < 3) = false := decide_eq_false (by omega)
            have tL' : decide (lg < 3) = false := decide_eq_false hL
            clear hx hxn hxb
            go_wp2_with fail
            try rw [Exit.noGoto_ret]
            go_ret2
            exact ⟨by rw [HXN.out, HXB.out]; first | rfl | (congr 3; omega) | (simp; omega), _, by first | rfl | exact World.drewN_drewN .. | (rw [World.drewN_drewN, World.drewN_drewN])⟩
        · have tA : decide (32768 < (a : Int) - (q : Int)) = false := decide_eq_false (by omega)
          by_cases cB : T ≤ tr ∧ 64 < a - q
          · have tB : decide ((T : Int) ≤ (tr : Int)) = true := decide_eq_true (by omega)
            have tB' : decide (T ≤ tr) = true := decide_eq_true cB.1
            have tB2 : decide (64 < (a : Int) - (q : Int)) = true := decide_eq_true (by omega)
            have HX := Aside.mk (HC.out.symm.trans (bestL_brk (.inr cB)))
            clear cB
            have hx := HBO.out HX.out
            by_cases hL : lg < 3
            · rw [if_pos hL] at hx
              have hxn : n = 0 := congrArg Prod.fst hx
              have hxb : b = 0 := congrArg Prod.snd hx
              have HXN := Aside.mk hxn; have HXB := Aside.mk hxb
              have tL : decide ((lg : Int) < 3) = true := decide_eq_true (by omega)
              have tL' : decide (lg < 3) = true := decide_eq_true hL
              clear hx hxn hxb
              go_wp2_with fail
              try rw [Exit.noGoto_ret]
              go_ret2
              exact ⟨by rw [HXN.out, HXB.out]; first | rfl | (congr 3; omega) | (simp; omega), _, by first | rfl | exact World.drewN_drewN .. | (rw [World.drewN_drewN, World.drewN_drewN])⟩
            · rw [if_neg hL] at hx
              have hxn : n = lg := congrArg Prod.fst hx
              have hxb : b = bk := congrArg Prod.snd hx
              have HXN := Aside.mk hxn; have HXB := Aside.mk hxb
              have tL : decide ((lg : Int) < 3) = false := decide_eq_false (by omega)
              have tL' : decide (lg < 3) = false := decide_eq_false hL
              clear hx hxn hxb
              go_wp2_with fail
              try rw [Exit.noGoto_ret]
              go_ret2
              exact ⟨by rw [HXN.out, HXB.out]; first | rfl | (congr 3; omega) | (simp; omega), _, by first | rfl | exact World.drewN_drewN .. | (rw [World.drewN_drewN, World.drewN_drewN])⟩
          · have hno : ¬ (32768 < a - q ∨ (T ≤ tr ∧ 64 < a - q)) := fun h => h.elim cA cB
            obtain ⟨N, hN⟩ : ∃ N, common l q a = N := ⟨_, rfl⟩
            have hN8 : N ≤ 258 := by have := (common_le l q a hal).1; omega
            have HN := Aside.mk hN; have HNO := Aside.mk hno
            have HCB := Aside.mk cB
            clear hN hno cB
            by_cases cT : T ≤ tr
            · have tB : decide ((T : Int) ≤ (tr : Int)) = true := decide_eq_true (by omega)
              have tB' : decide (T ≤ tr) = true := decide_eq_true cT
              have tB2 : decide (64 < (a : Int) - (q : Int)) = false := decide_eq_false (by have := HCB.out; omega)
              by_cases cD : lg < N
              · have tD : decide ((lg : Int) < (N : Int)) = true := decide_eq_true (by omega)
                have tD' : decide (lg < N) = true := decide_eq_true cD
                by_cases cE : N = 258
                · have tE : ((N : Int) == 258) = true := by rw [beq_iff_eq]; omega
                  have tE' : (N == 258) = true := by rw [beq_iff_eq]; exact cE
                  have HX := Aside.mk (HC.out.symm.trans (bestL_258 HNO.out HN.out cD cE))
                  clear cE
                  have hx := HBO.out HX.out
                  by_cases hL : N < 3
                  · rw [if_pos hL] at hx
                    have hxn : n = 0 := congrArg Prod.fst hx
                    have hxb : b = 0 := congrArg Prod.snd hx
                    have HXN := Aside.mk hxn; have HXB := Aside.mk hxb
                    have tL : decide ((N : Int) < 3) = true := decide_eq_true (by omega)
                    have tL' : decide (N < 3) = true := decide_eq_true hL
                    clear hx hxn hxb
                    go_wp2_with (go_at_call 27; with_reducible refine (common_at w0 _ g ga (some ad) c cap l T s (HF.out.drewN _) (HD.out.drewN _) hB hl q a hqa hal N HN.out).mono ?_; rintro e w' ⟨rfl, m2, rfl⟩)
                    try rw [Exit.noGoto_ret]
                    go_ret2
                    exact ⟨by rw [HXN.out, HXB.out]; first | rfl | (congr 3; omega) | (simp; omega), _, by first | rfl | exact World.drewN_drewN .. | (rw [World.drewN_drewN, World.drewN_drewN])⟩
                  · rw [if_neg hL] at hx
                    have hxn : n = N := congrArg Prod.fst hx
                    have hxb : b = (a - q) := congrArg Prod.snd hx
                    have HXN := Aside.mk hxn; have HXB := Aside.mk hxb
                    have tL : decide ((N : Int) < 3) = false := decide_eq_false (by omega)
                    have tL' : decide (N < 3) = false := decide_eq_false hL
                    clear hx hxn hxb
                    go_wp2_with (go_at_call 27; with_reducible refine (common_at w0 _ g ga (some ad) c cap l T s (HF.out.drewN _) (HD.out.drewN _) hB hl q a hqa hal N HN.out).mono ?_; rintro e w' ⟨rfl, m2, rfl⟩)
                    try rw [Exit.noGoto_ret]
                    go_ret2
                    exact ⟨by rw [HXN.out, HXB.out]; first | rfl | (congr 3; omega) | (simp; omega), _, by first | rfl | exact World.drewN_drewN .. | (rw [World.drewN_drewN, World.drewN_drewN])⟩
                · have tE : ((N : Int) == 258) = false := by rw [beq_eq_false_iff_ne]; omega
                  have tE' : (N == 258) = false := by rw [beq_eq_false_iff_ne]; exact cE
                  have HX := Aside.mk ((bestL_on HNO.out HN.out cD cE).symm.trans HC.out)
                  go_wp2_with (go_at_call 27; with_reducible refine (common_at w0 _ g ga (some ad) c cap l T s (HF.out.drewN _) (HD.out.drewN _) hB hl q a hqa hal N HN.out).mono ?_; rintro e w' ⟨rfl, m2, rfl⟩)
                  go_roundw
                  case rel => exact ⟨f, s.ahead q, N, (a - q), tr + 1, _, rfl, rfl, by rw [HBKD.out], by go_num, by omega, by omega, by omega, by omega, by omega, HX, by first | rfl | exact World.drewN_drewN ..⟩
                  case measure => simp [intOf]; omega
              · have tD : decide ((lg : Int) < (N : Int)) = false := decide_eq_false (by omega)
                have tD' : decide (lg < N) = false := decide_eq_false cD
                by_cases cE : lg = 258
                · have tE : ((lg : Int) == 258) = true := by rw [beq_iff_eq]; omega
                  have tE' : (lg == 258) = true := by rw [beq_iff_eq]; exact cE
                  have HX := Aside.mk (HC.out.symm.trans (bestL_258' HNO.out HN.out cD cE))
                  clear cE
                  have hx := HBO.out HX.out
                  by_cases hL : lg < 3
                  · rw [if_pos hL] at hx
                    have hxn : n = 0 := congrArg Prod.fst hx
                    have hxb : b = 0 := congrArg Prod.snd hx
                    have HXN := Aside.mk hxn; have HXB := Aside.mk hxb
                    have tL : decide ((lg : Int) < 3) = true := decide_eq_true (by omega)
                    have tL' : decide (lg < 3) = true := decide_eq_true hL
                    clear hx hxn hxb
                    go_wp2_with (go_at_call 27; with_reducible refine (common_at w0 _ g ga (some ad) c cap l T s (HF.out.drewN _) (HD.out.drewN _) hB hl q a hqa hal N HN.out).mono ?_; rintro e w' ⟨rfl, m2, rfl⟩)
                    try rw [Exit.noGoto_ret]
                    go_ret2
                    exact ⟨by rw [HXN.out, HXB.out]; first | rfl | (congr 3; omega) | (simp; omega), _, by first | rfl | exact World.drewN_drewN .. | (rw [World.drewN_drewN, World.drewN_drewN])⟩
                  · rw [if_neg hL] at hx
                    have hxn : n = lg := congrArg Prod.fst hx
                    have hxb : b = bk := congrArg Prod.snd hx
                    have HXN := Aside.mk hxn; have HXB := Aside.mk hxb
                    have tL : decide ((lg : Int) < 3) = false := decide_eq_false (by omega)
                    have tL' : decide (lg < 3) = false := decide_eq_false hL
                    clear hx hxn hxb
                    go_wp2_with (go_at_call 27; with_reducible refine (common_at w0 _ g ga (some ad) c cap l T s (HF.out.drewN _) (HD.out.drewN _) hB hl q a hqa hal N HN.out).mono ?_; rintro e w' ⟨rfl, m2, rfl⟩)
                    try rw [Exit.noGoto_ret]
                    go_ret2
                    exact ⟨by rw [HXN.out, HXB.out]; first | rfl | (congr 3; omega) | (simp; omega), _, by first | rfl | exact World.drewN_drewN .. | (rw [World.drewN_drewN, World.drewN_drewN])⟩
                · have tE : ((lg : Int) == 258) = false := by rw [beq_eq_false_iff_ne]; omega
                  have tE' : (lg == 258) = false := by rw [beq_eq_false_iff_ne]; exact cE
                  have HX := Aside.mk ((bestL_on' HNO.out HN.out cD cE).symm.trans HC.out)
                  go_wp2_with (go_at_call 27; with_reducible refine (common_at w0 _ g ga (some ad) c cap l T s (HF.out.drewN _) (HD.out.drewN _) hB hl q a hqa hal N HN.out).mono ?_; rintro e w' ⟨rfl, m2, rfl⟩)
                  go_roundw
                  case rel => exact ⟨f, s.ahead q, lg, bk, tr + 1, _, rfl, rfl, rfl, by go_num, by omega, by omega, by omega, by omega, by omega, HX, by first | rfl | exact World.drewN_drewN ..⟩
                  case measure => simp [intOf]; omega
            · have tB : decide ((T : Int) ≤ (tr : Int)) = false := decide_eq_false (by omega)
              have tB' : decide (T ≤ tr) = false := decide_eq_false cT
              by_cases cD : lg < N
              · have tD : decide ((lg : Int) < (N : Int)) = true := decide_eq_true (by omega)
                have tD' : decide (lg < N) = true := decide_eq_true cD
                by_cases cE : N = 258
                · have tE : ((N : Int) == 258) = true := by rw [beq_iff_eq]; omega
                  have tE' : (N == 258) = true := by rw [beq_iff_eq]; exact cE
                  have HX := Aside.mk (HC.out.symm.trans (bestL_258 HNO.out HN.out cD cE))
                  clear cE
                  have hx := HBO.out HX.out
                  by_cases hL : N < 3
                  · rw [if_pos hL] at hx
                    have hxn : n = 0 := congrArg Prod.fst hx
                    have hxb : b = 0 := congrArg Prod.snd hx
                    have HXN := Aside.mk hxn; have HXB := Aside.mk hxb
                    have tL : decide ((N : Int) < 3) = true := decide_eq_true (by omega)
                    have tL' : decide (N < 3) = true := decide_eq_true hL
                    clear hx hxn hxb
                    go_wp2_with (go_at_call 27; with_reducible refine (common_at w0 _ g ga (some ad) c cap l T s (HF.out.drewN _) (HD.out.drewN _) hB hl q a hqa hal N HN.out).mono ?_; rintro e w' ⟨rfl, m2, rfl⟩)
                    try rw [Exit.noGoto_ret]
                    go_ret2
                    exact ⟨by rw [HXN.out, HXB.out]; first | rfl | (congr 3; omega) | (simp; omega), _, by first | rfl | exact World.drewN_drewN .. | (rw [World.drewN_drewN, World.drewN_drewN])⟩
                  · rw [if_neg hL] at hx
                    have hxn : n = N := congrArg Prod.fst hx
                    have hxb : b = (a - q) := congrArg Prod.snd hx
                    have HXN := Aside.mk hxn; have HXB := Aside.mk hxb
                    have tL : decide ((N : Int) < 3) = false := decide_eq_false (by omega)
                    have tL' : decide (N < 3) = false := decide_eq_false hL
                    clear hx hxn hxb
                    go_wp2_with (go_at_call 27; with_reducible refine (common_at w0 _ g ga (some ad) c cap l T s (HF.out.drewN _) (HD.out.drewN _) hB hl q a hqa hal N HN.out).mono ?_; rintro e w' ⟨rfl, m2, rfl⟩)
                    try rw [Exit.noGoto_ret]
                    go_ret2
                    exact ⟨by rw [HXN.out, HXB.out]; first | rfl | (congr 3; omega) | (simp; omega), _, by first | rfl | exact World.drewN_drewN .. | (rw [World.drewN_drewN, World.drewN_drewN])⟩
                · have tE : ((N : Int) == 258) = false := by rw [beq_eq_false_iff_ne]; omega
                  have tE' : (N == 258) = false := by rw [beq_eq_false_iff_ne]; exact cE
                  have HX := Aside.mk ((bestL_on HNO.out HN.out cD cE).symm.trans HC.out)
                  go_wp2_with (go_at_call 27; with_reducible refine (common_at w0 _ g ga (some ad) c cap l T s (HF.out.drewN _) (HD.out.drewN _) hB hl q a hqa hal N HN.out).mono ?_; rintro e w' ⟨rfl, m2, rfl⟩)
                  go_roundw
                  case rel => exact ⟨f, s.ahead q, N, (a - q), tr + 1, _, rfl, rfl, by rw [HBKD.out], by go_num, by omega, by omega, by omega, by omega, by omega, HX, by first | rfl | exact World.drewN_drewN ..⟩
                  case measure => simp [intOf]; omega
              · have tD : decide ((lg : Int) < (N : Int)) = false := decide_eq_false (by omega)
                have tD' : decide (lg < N) = false := decide_eq_false cD
                by_cases cE : lg = 258
                · have tE : ((lg : Int) == 258) = true := by rw [beq_iff_eq]; omega
                  have tE' : (lg == 258) = true := by rw [beq_iff_eq]; exact cE
                  have HX := Aside.mk (HC.out.symm.trans (bestL_258' HNO.out HN.out cD cE))
                  clear cE
                  have hx := HBO.out HX.out
                  by_cases hL : lg < 3
                  · rw [if_pos hL] at hx
                    have hxn : n = 0 := congrArg Prod.fst hx
                    have hxb : b = 0 := congrArg Prod.snd hx
                    have HXN := Aside.mk hxn; have HXB := Aside.mk hxb
                    have tL : decide ((lg : Int) < 3) = true := decide_eq_true (by omega)
                    have tL' : decide (lg < 3) = true := decide_eq_true hL
                    clear hx hxn hxb
                    go_wp2_with (go_at_call 27; with_reducible refine (common_at w0 _ g ga (some ad) c cap l T s (HF.out.drewN _) (HD.out.drewN _) hB hl q a hqa hal N HN.out).mono ?_; rintro e w' ⟨rfl, m2, rfl⟩)
                    try rw [Exit.noGoto_ret]
                    go_ret2
                    exact ⟨by rw [HXN.out, HXB.out]; first | rfl | (congr 3; omega) | (simp; omega), _, by first | rfl | exact World.drewN_drewN .. | (rw [World.drewN_drewN, World.drewN_drewN])⟩
                  · rw [if_neg hL] at hx
                    have hxn : n = lg := congrArg Prod.fst hx
                    have hxb : b = bk := congrArg Prod.snd hx
                    have HXN := Aside.mk hxn; have HXB := Aside.mk hxb
                    have tL : decide ((lg : Int) < 3) = false := decide_eq_false (by omega)
                    have tL' : decide (lg < 3) = false := decide_eq_false hL
                    clear hx hxn hxb
                    go_wp2_with (go_at_call 27; with_reducible refine (common_at w0 _ g ga (some ad) c cap l T s (HF.out.drewN _) (HD.out.drewN _) hB hl q a hqa hal N HN.out).mono ?_; rintro e w' ⟨rfl, m2, rfl⟩)
                    try rw [Exit.noGoto_ret]
                    go_ret2
                    exact ⟨by rw [HXN.out, HXB.out]; first | rfl | (congr 3; omega) | (simp; omega), _, by first | rfl | exact World.drewN_drewN .. | (rw [World.drewN_drewN, World.drewN_drewN])⟩
                · have tE : ((lg : Int) == 258) = false := by rw [beq_eq_false_iff_ne]; omega
                  have tE' : (lg == 258) = false := by rw [beq_eq_false_iff_ne]; exact cE
                  have HX := Aside.mk ((bestL_on' HNO.out HN.out cD cE).symm.trans HC.out)
                  go_wp2_with (go_at_call 27; with_reducible refine (common_at w0 _ g ga (some ad) c cap l T s (HF.out.drewN _) (HD.out.drewN _) hB hl q a hqa hal N HN.out).mono ?_; rintro e w' ⟨rfl, m2, rfl⟩)
                  go_roundw
                  case rel => exact ⟨f, s.ahead q, lg, bk, tr + 1, _, rfl, rfl, rfl, by go_num, by omega, by omega, by omega, by omega, by omega, HX, by first | rfl | exact World.drewN_drewN ..⟩
                  case measure => simp [intOf]; omega

end Go.Proofs.Ytohkjiellcikhaa.P07
