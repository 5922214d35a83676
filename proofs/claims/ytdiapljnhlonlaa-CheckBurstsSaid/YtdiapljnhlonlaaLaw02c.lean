/- The law CheckBursts, walked. -/
import Derived.Test.YtdiapljnhlonlaaLaw02
import Derived.Test.YtdiapljnhlonlaaOwn
import Derived.Test.YtdiapljnhlonlaaCrcBurst
import Derived.StillTailTactics
namespace Go.Proofs.Ytdiapljnhlonlaa
open Go.RowKit Go.Proofs.YtdiapljnhlonlaaW.PrintWords Go.Proofs.YtdiapljnhlonlaaW.PrintLast Go.Proofs.YtdiapljnhlonlaaW.PrintMore
set_option linter.unusedVariables false
set_option linter.unusedSimpArgs false

theorem infoByte' : (Try.prog.info? 5).map (fun i => (i.zero, i.size, i.bytes)) = some (some (.int .u8 0), 1, 1) := by kernel_rfl

set_option maxHeartbeats 400000 in
set_option maxRecDepth 100000 in
theorem law02_CheckBursts_out (w : World) (A : Option Addr) (ca : Nat) (l : List UInt8) (hls : l.length ≤ 140737488351232) (at_ : Int) (hlo : -9223372036854775808 ≤ at_) (hhi : at_ ≤ 9223372036854775807) (turn : Nat) (ht : turn < 4294967296)
    (hout : at_ < 0 ∨ 8 * (l.length : Int) ≤ at_) :
    Calls Try.prog 6 #[.slice A l.length ca, .int .i64 at_, .int .u32 (turn : Int)] w fun e w' => e = .returned (.bool true) ∧ Below w.heap.size w w' := by
  by_cases h0 : at_ < 0
  · have hb0 : decide (at_ < 0) = true := decide_eq_true h0
    go_enter Try.func6, Try.ntmps6
    go_wp2_with (go_at_call 17; refine (law02_alive _).mono ?_; rintro e w1 ⟨rfl, hb⟩; have HB := Aside.mk hb; clear hb)
    go_ret
    exact ⟨rfl, HB.out⟩
  · have hb0 : decide (at_ < 0) = false := decide_eq_false h0
    have h1 : 8 * (l.length : Int) ≤ at_ := by omega
    have hb1 : decide (at_ ≥ 8 * (l.length : Int)) = true := decide_eq_true h1
    have hb2 : decide (8 * (l.length : Int) ≤ at_) = true := decide_eq_true h1
    clear hout
    go_enter Try.func6, Try.ntmps6
    go_wp2_with (go_at_call 17; refine (law02_alive _).mono ?_; rintro e w1 ⟨rfl, hb⟩; have HB := Aside.mk hb; clear hb)
    go_ret
    exact ⟨rfl, HB.out⟩

set_option maxHeartbeats 400000 in
set_option maxRecDepth 100000 in
theorem law02_CheckBursts_in (w : World) (A : Option Addr) (ca : Nat) (l : List UInt8) (hl : Bytes w A l) (hls : l.length ≤ 140737488351232) (a : Nat) (turn : Nat) (ht : turn < 4294967296)
    (hin : a < 8 * l.length) :
    Calls Try.prog 6 #[.slice A l.length ca, .int .i64 (a : Int), .int .u32 (turn : Int)] w fun e w' => e = .returned (.bool true) ∧ Below w.heap.size w w' := by
  have HL := Aside.mk hl; clear hl
  have hb0 : decide ((a : Int) < 0) = false := decide_eq_false (by omega)
  have hb1 : decide ((a : Int) ≥ 8 * (l.length : Int)) = false := decide_eq_false (by omega)
  have hb2 : decide (8 * (l.length : Int) ≤ (a : Int)) = false := decide_eq_false (by omega)
  have hO := OwnBytes.lit w w.heap.size 5 [] w.heap.size rfl (Nat.le_refl _) (by decide)
  have HO := Aside.mk hO
  have HBE := Aside.mk (show Below w.heap.size w (w.alloc (Obj.cells (byteVals []).toArray 5)) from (Below.refl _ w).alloc (Nat.le_refl _) _)
  clear hO
  go_enter Try.func6, Try.ntmps6
  go_wp2_with (at_builtin; refine wpList_app_bytes rfl (.tmp 22) (.tmp 23) 29 5 rfl w.heap.size Try.underlying29 infoByte' (.slice (some ⟨w.heap.size, 0, none⟩) 0 0) [] rfl HO.out A ca l rfl (HL.out.below HBE.out) (by simp; omega) (by simp) ?_; intro A1 c1 l1 w2 HL1 HO1 HC1 HBY1 hg1; have hW1 : Below w.heap.size (w.alloc (Obj.cells (byteVals []).toArray 5)) w2 := (grown_below hg1.out (B := w.heap.size) (by simp) (by intro k hk; cases hk; exact Nat.le_refl _)); have HB2 := Aside.mk (HBE.out.trans hW1))
  have hll : l1 = l := by rw [HL1.out]; rfl
  clear HL1 HC1 HBY1 hg1 hW1 HO HBE
  subst hll
  have hpos : 0 < l1.length := by omega
  obtain ⟨g, rfl, _, hgb, hgl⟩ := HO1.out.form hpos
  go_loopw [8, 25] (fun v8 v25 wr => ∃ i : Nat, i ≤ 32 ∧ v25 = .int .i64 i ∧ v8 = .bool (Crc.turned l1 a turn i) ∧ Aside (OwnBytes wr w.heap.size 5 (.slice (some ⟨g, 0, none⟩) l1.length c1) (Crc.burst l1 a turn i).1) ∧ Aside (Below w.heap.size w wr)) (fun _ v25 _ => 32 - (intOf v25).toNat)
  case atStart => exact ⟨0, by omega, rfl, rfl, HO1, HB2⟩
  case round =>
    clear HO1 HB2
    obtain ⟨i, hi, rfl, rfl, HO, HB⟩ := hrel
    by_cases hlt : i < 32
    · have hltb : decide ((i : Int) < 32) = true := decide_eq_true (by omega)
      have hdiv : (turn : Int) / 2 ^ i = ((turn / 2 ^ i : Nat) : Int) := by rw [Int.natCast_ediv, Int.natCast_pow]; rfl
      have hle : turn / 2 ^ i ≤ turn := Nat.div_le_self _ _
      have hand : bits .and .u32 ((turn : Int) / 2 ^ i) 1 = ((turn / 2 ^ i % 2 : Nat) : Int) := by
        rw [hdiv, show (1 : Int) = ((1 : Nat) : Int) from rfl, u32_and_nat _ 1 (by omega) (by decide), nat_mask1]
      have hlen := Crc.burst_length l1 a turn i
      have HBS := Aside.mk (show Crc.burst l1 a turn (i + 1) = if turn / 2 ^ i % 2 = 1 ∧ a + i < 8 * l1.length then (Crc.turnBit (Crc.burst l1 a turn i).1 (a + i), (Crc.burst l1 a turn i).2 ^^^ 2 ^ i) else Crc.burst l1 a turn i from rfl)
      have HTS := Aside.mk (show Crc.turned l1 a turn (i + 1) = if turn / 2 ^ i % 2 = 1 ∧ a + i < 8 * l1.length then true else Crc.turned l1 a turn i from rfl)
      generalize Crc.burst l1 a turn i = X at *
      generalize Crc.turned l1 a turn i = T at *
      obtain ⟨p, hp⟩ : ∃ p, a + i = p := ⟨_, rfl⟩
      rw [hp] at HBS HTS
      have hsum : (a : Int) + (i : Int) = (p : Int) := by omega
      have HP := Aside.mk hp; clear hp
      by_cases hbit : turn / 2 ^ i % 2 = 1
      · have hb : (bits .and .u32 ((turn : Int) / 2 ^ i) 1 == 1) = true := by rw [hand, hbit]; rfl
        by_cases hr : p < 8 * l1.length
        · have hrb : decide ((p : Int) < 8 * (l1.length : Int)) = true := decide_eq_true (by omega)
          rw [if_pos ⟨hbit, hr⟩] at HBS
          rw [if_pos ⟨hbit, hr⟩] at HTS
          obtain ⟨q, hq⟩ : ∃ q, p / 8 = q := ⟨_, rfl⟩
          obtain ⟨r, hr8⟩ : ∃ r, p % 8 = r := ⟨_, rfl⟩
          have HTX := Aside.mk (show Crc.turnBit X.1 p = X.1.set q (Crc.turnByte (X.1.getD q 0) r) by unfold Crc.turnBit; rw [hq, hr8])
          have hj : q < X.1.length := by omega
          have hj2 : q < l1.length := by omega
          have hr7 : r < 8 := by omega
          have hcell := HO.out.cell _ hj
          have hfr := HO.out.frozen q
          have hx := Crc.byte_lt X.1[q]
          have HSET := Aside.mk (fun v hv => HO.out.set q (Crc.turnByte (X.1.getD q 0) r) v hv hj)
          have HTB := Aside.mk (show (Crc.turnByte (X.1.getD q 0) r).toNat = X.1[q].toNat ^^^ 2 ^ r by
            rw [Crc.turnByte_toNat _ _ hr7, List.getD_eq_getElem?_getD, List.getElem?_eq_getElem hj]; rfl)
          generalize X.1[q].toNat = x at *
          have hpw : 2 ^ r < 256 := by
            have := Nat.pow_lt_pow_right (a := 2) (by decide) hr7
            simpa using this
          have hw1 : IntKind.i64.wrap ((p : Int) / 8) = (q : Int) := by rw [IntWalk.i64_in _ (by omega)]; omega
          have hw2 : (p : Int).tmod 8 = (r : Int) := by rw [Int.tmod_eq_emod_of_nonneg (by omega)]; omega
          have hw3 : (p : Int) % 8 = (r : Int) := by omega
          obtain ⟨P2, hP2⟩ : ∃ P2 : Nat, 2 ^ r = P2 := ⟨_, rfl⟩
          rw [hP2] at hpw HTB
          have HX := Aside.mk (show bits .xor .u8 (x : Int) ((2 : Int) ^ r % 256) = ((x ^^^ P2 : Nat) : Int) by
            rw [show (2 : Int) ^ r % 256 = (P2 : Int) from by rw [show (2 : Int) ^ r = (P2 : Int) from by rw [← hP2, Int.natCast_pow]; rfl]; omega]
            exact u8_xor_nat x P2 hx hpw)
          clear hand hdiv hbit hpw hq hr8 hP2
          go_wp2_with fail
          go_still_tail 10, (by kernel_rfl)
          change wpList _ _ _ _ _ wr.drew
          go_wp2_with fail
          go_roundw
          case rel => exact ⟨i + 1, by omega, by go_num, by rw [HTS.out], ⟨by rw [HBS.out, HTX.out]; exact (HSET.out _ (by rw [HTB.out, HX.out])).below (pw_below_drewN (Below.refl _ _) 1)⟩, ⟨((HB.out).setCell (by exact hgb) _).drew⟩⟩
          case measure => simp [intOf]; omega
        · have hrb : decide ((p : Int) < 8 * (l1.length : Int)) = false := decide_eq_false (by omega)
          have HC := Aside.mk (show ¬ (turn / 2 ^ i % 2 = 1 ∧ p < 8 * l1.length) from fun h => hr h.2)
          clear hand hdiv hbit
          go_wp2_with fail
          go_roundw
          case rel => exact ⟨i + 1, by omega, by go_num, by rw [HTS.out, if_neg HC.out], ⟨by rw [HBS.out, if_neg HC.out]; exact HO.out⟩, HB⟩
          case measure => simp [intOf]; omega
      · have hb : (bits .and .u32 ((turn : Int) / 2 ^ i) 1 == 1) = false := by rw [hand, show turn / 2 ^ i % 2 = 0 from by omega]; rfl
        have HC := Aside.mk (show ¬ (turn / 2 ^ i % 2 = 1 ∧ p < 8 * l1.length) from fun h => hbit h.1)
        clear hand hdiv hbit
        go_wp2_with fail
        go_roundw
        case rel => exact ⟨i + 1, by omega, by go_num, by rw [HTS.out, if_neg HC.out], ⟨by rw [HBS.out, if_neg HC.out]; exact HO.out⟩, HB⟩
        case measure => simp [intOf]; omega
    · obtain rfl : i = 32 := by omega
      have HSUM := Aside.mk (Crc.burst_sum l1 a turn hin)
      have hlen := Crc.burst_length l1 a turn 32
      generalize Crc.burst l1 a turn 32 = X at *
      generalize Crc.turned l1 a turn 32 = T at *
      have hz := (zero_of_info infoTable).1
      go_upto_region 14 with (first | (go_at_call 16; refine (check_Make _).mono ?_; rintro e w1 ⟨rfl, hb⟩; have HB1 := Aside.mk hb; clear hb) | (refine wpList_store_new rfl 24 _ _ rfl 24 _ _ rfl rfl (infoTableAt _) (by rw [size_tabV]; simp) (tabV_all _) ?_))
      have hT : IsTable (w1.alloc (Obj.cells (tabV 256) 24)) w1.heap.size := ⟨_, _, heap_alloc_new _ _⟩
      have hB2 : Below wr.heap.size wr (w1.alloc (Obj.cells (tabV 256) 24)) := HB1.out.alloc (HB1.out.size) _
      have hB3 := HB.out.trans (hB2.mono HB.out.size)
      have hO2 := HO.out.below hB2
      generalize w1.alloc (Obj.cells (tabV 256) 24) = W at *
      have HB3 := Aside.mk hB3
      have hall : ∀ Wx : World, Below W.heap.size W Wx → Aside (IsTable Wx w1.heap.size) ∧ Aside (Bytes Wx (some ⟨g, 0, none⟩) X.1) ∧ Aside (Bytes Wx A l1) := fun Wx hb => by
        have hb' := HB3.out.trans (hb.mono HB3.out.size)
        have hby := (hO2.below hb).bytes
        exact ⟨⟨hT.below hb⟩, ⟨hby⟩, ⟨HL.out.below hb'⟩⟩
      have HALL := Aside.mk hall
      clear hT hB2 hB3 hO2 hall HO HB HB1 hz
      cases T with
      | false =>
        go_wp2_with (first | (go_at_call 17; refine (law02_alive _).mono ?_; rintro e w2 ⟨rfl, hb⟩; have HB9 := Aside.mk hb; clear hb; obtain ⟨h1, h2, h3⟩ := HALL.out _ HB9.out))
        go_ret
        exact ⟨rfl, HB3.out.trans (HB9.out.mono HB3.out.size)⟩
      | true =>
        have hne : ((Crc.sum X.1 : Int) != (Crc.sum l1 : Int)) = true := by
          have := HSUM.out rfl
          rw [bne_iff_ne]
          omega
        have hne2 : ((Crc.sum X.1 : Int) == (Crc.sum l1 : Int)) = false := by
          have := HSUM.out rfl
          rw [beq_eq_false_iff_ne]
          omega
        go_wp2_with (first | (go_at_call 17; refine (law02_alive _).mono ?_; rintro e w2 ⟨rfl, hb⟩; have HB9 := Aside.mk hb; clear hb; obtain ⟨h1, h2, h3⟩ := HALL.out _ HB9.out) | (go_at_call 19; with_reducible refine (check_Sum_n _ _ _ _ X.1 _ h1.out h2.out hlen).mono ?_; rintro e w' ⟨rfl, rfl⟩) | (go_at_call 19; with_reducible refine (check_Sum_n _ _ _ _ l1 _ h1.out h3.out rfl).mono ?_; rintro e w' ⟨rfl, rfl⟩))
        go_ret
        exact ⟨rfl, HB3.out.trans (HB9.out.mono HB3.out.size)⟩

theorem law02_CheckBursts (w : World) (A : Option Addr) (ca : Nat) (l : List UInt8) (hl : Bytes w A l) (hca : l.length ≤ ca) (hls : l.length ≤ 140737488351232) (at_ : Int) (hlo : -9223372036854775808 ≤ at_) (hhi : at_ ≤ 9223372036854775807) (turn : Nat) (ht : turn < 4294967296) :
    Calls Try.prog 6 #[.slice A l.length ca, .int .i64 at_, .int .u32 (turn : Int)] w fun e w' => e = .returned (.bool true) ∧ Below w.heap.size w w' := by
  by_cases h : at_ < 0 ∨ 8 * (l.length : Int) ≤ at_
  · exact law02_CheckBursts_out w A ca l hls at_ hlo hhi turn ht h
  · obtain ⟨a, rfl⟩ := Int.eq_ofNat_of_zero_le (show 0 ≤ at_ from by omega)
    exact law02_CheckBursts_in w A ca l hl hls a turn ht (by omega)

end Go.Proofs.Ytdiapljnhlonlaa
