/- The walks of the finder's note and best. -/
import Derived.Test.YtohkjiellcikhaaFinderW
namespace Go.Proofs.Ytohkjiellcikhaa.P07
open Go.RowKit Go.Proofs.YtohkjiellcikhaaW.PrintWords Go.Proofs.YtohkjiellcikhaaW.PrintLast Go.Proofs.YtohkjiellcikhaaW.PrintMore Go.Proofs.Ytohkjiellcikhaa MF
set_option linter.unusedVariables false
set_option linter.unusedSimpArgs false

theorem rd_drop (l : List Int) (a j : Nat) : rd (l.drop a) (j : Int) = l.getD (a + j) 0 := by
  unfold rd
  rw [Int.toNat_natCast, List.getD_eq_getElem?_getD, List.getElem?_drop, ← List.getD_eq_getElem?_getD]
theorem room_eq (l : List Int) (hB : AllB l) (a : Nat) (h : a + 3 ≤ l.length) : match_room.f (l.drop a) = some (room l a : Int) := by
  have h0 := byt_lt hB a (by omega)
  have h1 := byt_lt hB (a + 1) (by omega)
  have h2 := byt_lt hB (a + 2) (by omega)
  have e0 := byt_eq hB a (by omega)
  have e1 := byt_eq hB (a + 1) (by omega)
  have e2 := byt_eq hB (a + 2) (by omega)
  unfold match_room.f
  have hl : (l.drop a).length = l.length - a := by simp
  rw [if_pos (by omega), if_pos (by omega), if_pos (by omega)]
  have r0 := rd_drop l a 0
  have r1 := rd_drop l a 1
  have r2 := rd_drop l a 2
  rw [Nat.add_zero, e0] at r0
  rw [e1] at r1
  rw [e2] at r2
  rw [show ((0 : Nat) : Int) = 0 from rfl] at r0
  rw [show ((1 : Nat) : Int) = 1 from rfl] at r1
  rw [show ((2 : Nat) : Int) = 2 from rfl] at r2
  rw [r0, r1, r2]
  unfold room
  generalize byt l a = x at *
  generalize byt l (a + 1) = y at *
  generalize byt l (a + 2) = z at *
  have w1 : wrap64 (wrap64 (x : Int) * 9176) = ((x * 9176 : Nat) : Int) := by rw [wrap64_nat x (by omega)]; rw [show (x : Int) * 9176 = ((x * 9176 : Nat) : Int) by omega, wrap64_nat _ (by omega)]
  have w2 : wrap64 (wrap64 (y : Int) * 331) = ((y * 331 : Nat) : Int) := by rw [wrap64_nat y (by omega)]; rw [show (y : Int) * 331 = ((y * 331 : Nat) : Int) by omega, wrap64_nat _ (by omega)]
  rw [w1, w2, wrap64_nat z (by omega), i64_xor_nat _ _ (by omega) (by omega)]
  have hx : x * 9176 ^^^ y * 331 < 2 ^ 24 := Nat.xor_lt_two_pow (by omega) (by omega)
  rw [i64_xor_nat _ _ (by omega) (by omega)]
  congr 1

theorem run_last (W : World) (g r : Nat) (h : r < 8192) : (Instr.indexAt 44 (.pointer (some ⟨g, 1, none⟩)) (.int .i64 (r : Int))).run Try.prog W = .ok (.pointer (some ⟨g, 1 + r, none⟩)) W := by
  have e : (⟨g, 1, none⟩ : Addr).add r = ⟨g, 1 + r, none⟩ := by
    unfold Addr.add
    by_cases h0 : r = 0
    · subst h0; simp
    · simp [h0]
  have h2 : (0 : Int) ≤ (r : Int) ∧ (r : Int) < ((8192 : Nat) : Int) := by omega
  have hs : (sizeOf 3).run Try.prog W = .ok 1 W := by
    obtain ⟨i, hi, _, h1, _⟩ := info_parts (show (Try.prog.info? 3).map (fun i => (i.zero, i.size, i.bytes)) = some (some (.int .i64 0), 1, 8) by kernel_rfl)
    simp [sizeOf, typeInfo, hi, h1]
  simp [Instr.indexAt, asIntOf, run_underlying Try.underlying44, Instr.sureAddr, h2, hs, e]
  intro h'; omega

/-- A cut of the data from a place on. -/
theorem data_cut {w : World} {A : Option Addr} {l : List Int} {c a : Nat} (h : Kd.C (Kd.int .u8) w A l.length l) (ha : a ≤ l.length) (hc : l.length ≤ c) (h0 : a < l.length) :
    ∃ ad, A = some ad ∧ Kd.C (Kd.int .u8) w (some (ad.add a)) (l.drop a).length (l.drop a) := by
  have := Kd.C_drop h ha hc
  rw [if_neg (by omega)] at this
  obtain ⟨ad, e, _⟩ := Kd.at_int h (a : Int) (by omega) (by omega)
  subst e
  refine ⟨ad, rfl, ?_⟩
  have e : a * (Kd.int .u8).sz = a := by show a * 1 = a; omega
  rw [e] at this
  exact this
theorem room_calls (w : World) (ad : Addr) (l : List Int) (c a n : Nat) (hB : AllB l) (h : a + 3 ≤ l.length) (hd : Kd.C (Kd.int .u8) w (some (ad.add a)) (l.drop a).length (l.drop a)) (hc : l.length ≤ c) (hn : n = l.length - a) (r : Nat) (hr : room l a = r) :
    Calls Try.prog 26 #[.slice (some (ad.add a)) n (c - a)] w fun e w' => e = .returned (.int .i64 (r : Int)) ∧ ∃ m, w' = w.drewN m := by
  have hl : (l.drop a).length = n := by simp [hn]
  rw [← hl]
  subst hr
  refine (match_room.calls (some (ad.add a)) (c - a) (l.drop a) (room l a : Int) w hd (by simp; omega) (room_eq l hB a h)).mono ?_
  rintro e w' ⟨h1, ⟨h2⟩⟩
  exact ⟨h1, h2⟩

set_option maxHeartbeats 1000000 in
set_option maxRecDepth 100000 in
theorem finder_note (w0 w : World) (g ga : Nat) (A : Option Addr) (c cap : Nat) (l : List Int) (T : Nat) (s : St) (hF : IsFinder w0 w g ga A c cap l T s) (hd : Kd.C (Kd.int .u8) w A l.length l) (hcl : l.length ≤ c) (hB : AllB l) (hl : l.length ≤ 140737488355328) (a : Nat) (ha : a < l.length) (hs : s.Inv a) :
    Calls Try.prog 23 #[.pointer (some ⟨g, 0, none⟩), .int .i64 (a : Int)] w fun e w' => e = .returned (.tuple #[]) ∧ Aside (IsFinder w0 w' g ga A c cap l T (note l s a)) ∧ Aside (Only w w' (fun k => k = g ∨ k = ga)) ∧ Aside (w'.heap.size = w.heap.size) := by
  have HF := Aside.mk hF
  obtain ⟨h0, h8193, _⟩ := hF.cells
  have hw1 : (a : Int) + 3 = ((a + 3 : Nat) : Int) := by omega
  by_cases hs3 : l.length < a + 3
  · have t1 : decide ((l.length : Int) < (a : Int) + 3) = true := decide_eq_true (by omega)
    have e : note l s a = s := by unfold note; rw [if_pos hs3]
    have HE := Aside.mk e
    clear hF hw1 e
    go_enter Try.func23, Try.ntmps23
    go_wp2_with fail
    refine bodyPost_ret (results_none rfl _ _ _) rfl ?_
    exact ⟨rfl, ⟨by rw [HE.out]; exact HF.out⟩, ⟨Only.refl _ _⟩, ⟨rfl⟩⟩
  · have t1 : decide ((l.length : Int) < (a : Int) + 3) = false := decide_eq_false (by omega)
    obtain ⟨ad, rfl, hcut⟩ := data_cut hd (by omega) hcl ha
    have HCUT := Aside.mk hcut
    obtain ⟨r, hr⟩ : ∃ r, room l a = r := ⟨_, rfl⟩
    have hrl : r < 8192 := by subst hr; exact room_lt _ _
    have hlast := hF.last r hrl
    have hah := hF.ahead a ha
    have hll := hs.1 r
    have hE : note l s a = ⟨fun j => if j = r then a + 1 else s.last j, fun j => if j = a then s.last r else s.ahead j⟩ := by
      unfold note; rw [if_neg hs3, hr]
    have HE := Aside.mk hE
    have HR := Aside.mk hr
    have hne := hF.ne
    have HNE := Aside.mk hne
    have hac : a ≤ c := by omega
    obtain ⟨v, hv⟩ : ∃ v, s.last r = v := ⟨_, rfl⟩
    rw [hv] at hlast
    have HV := Aside.mk hv
    obtain ⟨hl1, hl2⟩ := hlast
    obtain ⟨ha1, ha2⟩ := hah
    have HS1 := Aside.mk (fun m => ((HF.out.drewN m).setAhead a v ha))
    have hcca : ¬ (c = a) := by omega
    have hcca' : (c == a) = false := by simp; omega
    have hac2 : 0 ≤ (a : Int) := by omega
    clear hF hw1 hr hE hv hd hcut hs hne
    go_enter Try.func23, Try.ntmps23
    go_wp2_with (go_at_call 26; with_reducible refine (room_calls w ad l c a _ hB (by omega) HCUT.out hcl rfl r HR.out).mono ?_; rintro e w' ⟨rfl, m, rfl⟩)
    have hm8193 : (w.drewN m).cell? ⟨g, 8193, none⟩ = some (.slice (some ⟨ga, 0, none⟩) l.length cap) := h8193
    have hml1 : (w.drewN m).cell? ⟨g, 1 + r, none⟩ = some (.int .i64 (v : Int)) := hl1
    have hma1 : (w.drewN m).cell? ⟨ga, a, none⟩ = some (.int .i64 (s.ahead a : Int)) := ha1
    have hma2 : (w.drewN m).frozen? ⟨ga, a, none⟩ = false := ha2
    have HS2 := Aside.mk (HF.out.drewN m)
    have HON := Aside.mk ((Only.refl w (fun k => k = g ∨ k = ga)).drewN m)
    have HSZ := Aside.mk (show (w.drewN m).heap.size = w.heap.size from rfl)
    clear h0 h8193 hl1 hl2 ha1 ha2 HS1
    generalize w.drewN m = W at *
    have hia := fun W' => run_last W' g r hrl
    go_still_tail 12, (by kernel_rfl)
    change wpList _ _ _ _ _ W.drew
    have HS3 := Aside.mk (HS2.out.setAhead a v ha)
    have HS4 := Aside.mk (HS3.out.setLast r (a + 1) hrl)
    have HON2 := Aside.mk (((HON.out.setCell (p := ⟨ga, a, none⟩) (.inl (.inr rfl)) (.int .i64 (v : Int)))).setCell (p := ⟨g, 1 + r, none⟩) (.inl (.inl rfl)) (.int .i64 ((a + 1 : Nat) : Int)))
    obtain ⟨hq1, hq2⟩ := HS3.out.last r hrl
    go_wp2_with fail
    go_end0
    refine ⟨rfl, ⟨?_⟩, ⟨?_⟩, ⟨?_⟩⟩
    · rw [HE.out, HV.out]
      exact HS4.out.drewN 1
    · exact HON2.out.drewN 1
    · have := HSZ.out
      simpa [World.setCell] using this

end Go.Proofs.Ytohkjiellcikhaa.P07
