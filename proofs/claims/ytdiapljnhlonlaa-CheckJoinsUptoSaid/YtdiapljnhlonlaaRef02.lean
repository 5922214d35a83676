/- The contracts of the document's answer for layer 2 (wainloadref02). -/
import Derived.Test.YtdiapljnhlonlaaCheck
namespace Go.Proofs.Ytdiapljnhlonlaa
open Go.RowKit Go.Proofs.YtdiapljnhlonlaaW.PrintWords Go.Proofs.YtdiapljnhlonlaaW.PrintLast Go.Proofs.YtdiapljnhlonlaaW.PrintMore
set_option linter.unusedVariables false
set_option linter.unusedSimpArgs false

theorem ref02_Step (c : Nat) (hc : c < 4294967296) (w : World) :
    Calls Try.prog 44 #[.int .u32 (c : Int)] w fun e w' => e = .returned (.int .u32 (Crc.step c : Int)) ∧ w = w' := by
  have hxor : bits .xor .u32 ((c / 2 : Nat) : Int) 3988292384 = ((c / 2 ^^^ 3988292384 : Nat) : Int) := by
    rw [show (3988292384 : Int) = ((3988292384 : Nat) : Int) from rfl, u32_xor_nat (c / 2) _ (by omega) (by decide)]
  have hdiv : (c : Int) / 2 = ((c / 2 : Nat) : Int) := by omega
  unfold Crc.step
  by_cases h : c % 2 = 1
  · rw [if_pos h]
    have hb : ((c : Int) % 2 == 1) = true := beq_iff_eq.2 (by omega)
    have HX := Aside.mk hxor; have HD := Aside.mk hdiv
    clear hxor hdiv h
    go_enter Try.func44, Try.ntmps44
    go_wp2
    go_ret
    exact ⟨by first | rfl | (rw [HD.out, HX.out]; rfl) | (rw [← HX.out, ← HD.out]; rfl), rfl⟩
  · rw [if_neg h]
    have hb : ((c : Int) % 2 == 1) = false := beq_eq_false_iff_ne.2 (by omega)
    have HD := Aside.mk hdiv
    clear hxor hdiv h
    go_enter Try.func44, Try.ntmps44
    go_wp2
    go_ret
    exact ⟨by first | rfl | (rw [HD.out]; rfl), rfl⟩

set_option maxHeartbeats 400000 in
set_option maxRecDepth 100000 in
theorem ref02_Eight (c : Nat) (hc : c < 4294967296) (w : World) :
    Calls Try.prog 18 #[.int .u32 (c : Int)] w fun e w' => e = .returned (.int .u32 (Crc.stepN 8 c : Nat)) ∧ w = w' := by
  go_enter Try.func18, Try.ntmps18
  go_wp2_with fail
  go_loop [0, 3] (fun v0 v3 => ∃ k : Nat, k ≤ 8 ∧ v3 = .int .i64 k ∧ v0 = .int .u32 (Crc.stepN k c : Nat)) (fun _ v3 => 8 - (intOf v3).toNat)
  case atStart => exact ⟨0, by omega, rfl, rfl⟩
  case round =>
    obtain ⟨k, hk, rfl, rfl⟩ := hrel
    by_cases hlt : k < 8
    · have hltb : decide ((k : Int) < 8) = true := decide_eq_true (by omega)
      have hS := Crc.stepN_lt k hc
      go_wp2_with (go_at_call 44; refine (ref02_Step _ (by assumption) _).mono ?_; rintro e w' ⟨rfl, rfl⟩)
      go_round
      case rel => exact ⟨k+1, by omega, by go_num, rfl⟩
      case measure => simp [intOf]; omega
    · obtain rfl : k = 8 := by omega
      go_wp2_with fail
      go_ret
      exact ⟨rfl, rfl⟩

set_option maxHeartbeats 400000 in
set_option maxRecDepth 100000 in
theorem ref02_More (c : Nat) (hc : c < 4294967296) (A : Option Addr) (cap : Nat) (l : List UInt8) (w : World) (hl : Bytes w A l) :
    Calls Try.prog 22 #[.int .u32 (c : Int), .slice A l.length cap] w fun e w' => e = .returned (.int .u32 (Crc.more c l : Int)) ∧ w = w' := by
  have hlen := hl.len
  have HL := Aside.mk hl; clear hl
  go_enter Try.func22, Try.ntmps22
  go_wp2_with fail
  go_loop [0, 5] (fun v0 v5 => ∃ k : Nat, k ≤ l.length ∧ v5 = .int .i64 k ∧ v0 = .int .u32 (Crc.run (4294967295 - c) (l.take k) : Nat)) (fun _ v5 => l.length - (intOf v5).toNat)
  case atStart => exact ⟨0, by omega, rfl, by congr 1; simp [Crc.run]; omega⟩
  case round =>
    obtain ⟨k, hk, rfl, rfl⟩ := hrel
    have hr : Crc.run (4294967295 - c) (l.take k) < 4294967296 := Crc.run_lt _ (by omega)
    have hS := fun h : k < l.length => runTake_succ (4294967295 - c) l k h
    have HE := Aside.mk (show k = l.length → 4294967295 - Crc.run (4294967295 - c) (l.take k) = Crc.more c l from fun h => by subst h; rw [List.take_length]; rfl)
    generalize Crc.run (4294967295 - c) (l.take k) = R at *
    by_cases hlt : k < l.length
    · have hltb : decide ((k : Int) < (l.length : Int)) = true := decide_eq_true (by omega)
      obtain ⟨ad, rfl, hcell⟩ := HL.out.at k hlt
      have hxb := Crc.byte_lt l[k]
      have HS := Aside.mk (hS hlt)
      clear hS
      generalize l[k].toNat = x at *
      have hx1 := u32_xor_nat R x hr (by omega)
      have hlt2 := Nat.xor_lt_two_pow (n := 32) hr (show x < 2 ^ 32 by omega)
      have HU := Aside.mk (show Crc.upd R x = Crc.stepN 8 (R ^^^ x) from rfl)
      generalize R ^^^ x = y at *
      have hy : y < 4294967296 := hlt2
      clear hlt2
      go_wp2_with (go_at_call 18; refine (ref02_Eight _ (by assumption) _).mono ?_; rintro e w' ⟨rfl, rfl⟩)
      go_round
      case rel => exact ⟨k+1, by omega, by go_num, by rw [HS.out, HU.out]⟩
      case measure => simp [intOf]; omega
    · obtain rfl : k = l.length := by omega
      have HE' := HE.out rfl
      clear hS
      have HE2 := Aside.mk HE'
      clear HE'
      go_wp2_with fail
      go_ret
      refine ⟨?_, rfl⟩
      rw [← HE2.out, show ((4294967295 - R : Nat) : Int) = 4294967295 - (R : Int) from by omega]
      rfl

theorem ref02_Sum (A : Option Addr) (cap : Nat) (l : List UInt8) (w : World) (hl : Bytes w A l) :
    Calls Try.prog 20 #[.slice A l.length cap] w fun e w' => e = .returned (.int .u32 (Crc.sum l : Int)) ∧ w = w' := by
  have HL := Aside.mk hl; clear hl
  go_enter Try.func20, Try.ntmps20
  go_wp2_with (go_at_call 22; refine (ref02_More 0 (by decide) A cap l _ HL.out).mono ?_; rintro e w' ⟨rfl, rfl⟩)
  go_ret
  exact ⟨rfl, rfl⟩

theorem stepN8_succ (k a : Nat) : Crc.stepN (8 * (k + 1)) a = Crc.stepN 8 (Crc.stepN (8 * k) a) := by
  rw [← Crc.stepN_add, show 8 + 8 * k = 8 * (k + 1) from by omega]

set_option maxHeartbeats 400000 in
set_option maxRecDepth 100000 in
theorem ref02_Join (a b : Nat) (ha : a < 4294967296) (hb : b < 4294967296) (long : Int) (hlong : long ≤ 9223372036854775807) (w : World) :
    Calls Try.prog 24 #[.int .u32 (a : Int), .int .u32 (b : Int), .int .i64 long] w fun e w' => e = .returned (.int .u32 (Crc.stepN (8 * long.toNat) a ^^^ b : Nat)) ∧ w = w' := by
  go_enter Try.func24, Try.ntmps24
  go_wp2_with fail
  go_loop [0, 7] (fun v0 v7 => ∃ k : Nat, k ≤ long.toNat ∧ v7 = .int .i64 k ∧ v0 = .int .u32 (Crc.stepN (8 * k) a : Nat)) (fun _ v7 => long.toNat - (intOf v7).toNat)
  case atStart => exact ⟨0, by omega, rfl, rfl⟩
  case round =>
    obtain ⟨k, hk, rfl, rfl⟩ := hrel
    have hS := Crc.stepN_lt (8 * k) ha
    by_cases hlt : (k : Int) < long
    · have hltb : decide ((k : Int) < long) = true := decide_eq_true hlt
      have HP := Aside.mk (stepN8_succ k a)
      go_wp2_with (go_at_call 18; refine (ref02_Eight _ (by assumption) _).mono ?_; rintro e w' ⟨rfl, rfl⟩)
      go_round
      case rel => exact ⟨k+1, by omega, by go_num, by rw [HP.out]⟩
      case measure => simp [intOf]; omega
    · have hkl : k = long.toNat := by omega
      have hltb : decide ((k : Int) < long) = false := decide_eq_false hlt
      have hxor := u32_xor_nat _ b hS hb
      have HX := Aside.mk hxor; clear hxor
      have HK := Aside.mk hkl; clear hkl
      go_wp2_with fail
      go_ret
      exact ⟨by rw [← HK.out, ← HX.out]; rfl, rfl⟩

end Go.Proofs.Ytdiapljnhlonlaa
