/- The contracts of package check: what each of its functions computes. -/
import Derived.Test.YtdiapljnhlonlaaBase
import Derived.Test.YtdiapljnhlonlaaCrc
namespace Go.Proofs.Ytdiapljnhlonlaa
open Go.RowKit Go.Proofs.YtdiapljnhlonlaaW.PrintWords Go.Proofs.YtdiapljnhlonlaaW.PrintLast Go.Proofs.YtdiapljnhlonlaaW.PrintMore
set_option linter.unusedVariables false
set_option linter.unusedSimpArgs false

theorem check_step (c : Nat) (hc : c < 4294967296) (w : World) :
    Calls Try.prog 43 #[.int .u32 (c : Int)] w fun e w' => e = .returned (.int .u32 (Crc.step c : Int)) ∧ w = w' := by
  have hand : bits .and .u32 (c : Int) 1 = ((c % 2 : Nat) : Int) := by
    rw [show (1 : Int) = ((1 : Nat) : Int) from rfl, u32_and_nat c 1 hc (by decide), nat_mask1]
  have hxor : bits .xor .u32 ((c / 2 : Nat) : Int) 3988292384 = ((c / 2 ^^^ 3988292384 : Nat) : Int) := by
    rw [show (3988292384 : Int) = ((3988292384 : Nat) : Int) from rfl, u32_xor_nat (c / 2) _ (by omega) (by decide)]
  have hdiv : (c : Int) / 2 = ((c / 2 : Nat) : Int) := by omega
  unfold Crc.step
  by_cases h : c % 2 = 1
  · rw [if_pos h]
    have hb : (bits .and .u32 (c : Int) 1 == 1) = true := by rw [hand, h]; rfl
    have HX := Aside.mk hxor; have HD := Aside.mk hdiv
    clear hand hxor hdiv h hc
    go_enter Try.func43, Try.ntmps43
    go_wp2
    go_ret
    exact ⟨by first | rfl | (rw [HD.out, HX.out]; rfl), rfl⟩
  · rw [if_neg h]
    have hb : (bits .and .u32 (c : Int) 1 == 1) = false := by rw [hand, show c % 2 = 0 from by omega]; rfl
    have HD := Aside.mk hdiv
    clear hand hxor hdiv h hc
    go_enter Try.func43, Try.ntmps43
    go_wp2
    go_ret
    exact ⟨by first | rfl | (rw [HD.out]; rfl), rfl⟩

theorem infoTable : (Try.prog.info? 24).map (fun i => (i.zero, i.size)) = some (some (.agg (Array.replicate 256 (.int .u32 0))), 256) := by kernel_rfl
/-- The table, its first k places done. -/
def tabV (k : Nat) : Array Value := ((List.range 256).map fun n => Value.int .u32 (if n < k then (Crc.tab n : Int) else 0)).toArray
theorem tab0 : Array.replicate 256 (Value.int .u32 0) = tabV 0 := by kernel_rfl
theorem size_tabV (k : Nat) : (tabV k).size = 256 := by simp [tabV]
theorem tabV_all (k : Nat) : (tabV k).all (·.oneCell') = true := by
  simp only [tabV, List.all_toArray, List.all_eq_true, List.mem_map]
  rintro v ⟨n, _, rfl⟩; rfl
theorem tabV_at (k i : Nat) (h : i < 256) : (tabV k)[i]? = some (.int .u32 (if i < k then (Crc.tab i : Int) else 0)) := by
  simp [tabV, h]
theorem tabV_set (k : Nat) : (tabV k).setIfInBounds k (.int .u32 (Crc.stepN 8 k : Int)) = tabV (k+1) := by
  apply Array.ext
  · simp [tabV]
  · intro i h1 h2
    simp only [tabV, List.setIfInBounds_toArray, List.getElem_toArray]
    rw [List.getElem_set]
    simp only [List.getElem_map, List.getElem_range]
    split
    · rename_i h; subst h; simp [Crc.tab]
    · congr 1; congr 1; simp; omega
theorem infoTableSize : (Try.prog.info? 24).map (·.size) = some 256 := by kernel_rfl
theorem infoTableAt (k : Nat) : (Try.prog.info? 24).map (·.size) = some (tabV k).size := by rw [size_tabV]; exact infoTableSize

set_option maxHeartbeats 400000 in
set_option maxRecDepth 100000 in
theorem check_Make (w : World) : Calls Try.prog 16 #[] w fun e w' => e = .returned (.agg (tabV 256)) ∧ Below w.heap.size w w' := by
  have hz := (zero_of_info infoTable).1
  go_enter Try.func16, Try.ntmps16
  go_wp2
  go_loopw [4] (fun v4 wr => ∃ k : Nat, k ≤ 256 ∧ v4 = .int .i64 k ∧ wr.heap.size = w.heap.size + 2 ∧ wr.heap[w.heap.size]? = some (.cells (tabV 0) 24) ∧ wr.heap[w.heap.size + 1]? = some (.cells (tabV k) 24) ∧ Below w.heap.size w wr) (fun v4 _ => 256 - (intOf v4).toNat)
  case atStart => 
    rw [tab0]
    exact ⟨0, by omega, rfl, by simp, heap_alloc2_old _ _ _, heap_alloc2_new _ _ _, ((Below.refl _ _).alloc (by omega) _).alloc (by simp) _⟩
  case round =>
    obtain ⟨k, hk, rfl, hsz, h0, h1, hb⟩ := hrel
    by_cases hlt : k < 256
    · have H0 := Aside.mk h0; have H1 := Aside.mk h1; have HS := Aside.mk hsz; clear h0 h1 hsz
      have hltb : decide ((k : Int) < 256) = true := decide_eq_true (by omega)
      go_wp2_with fail
      go_loop [3, 9] (fun v3 v9 => ∃ j : Nat, j ≤ 8 ∧ v9 = .int .i64 j ∧ v3 = .int .u32 (Crc.stepN j k : Nat)) (fun _ v9 => 8 - (intOf v9).toNat)
      case atStart => exact ⟨0, by omega, rfl, rfl⟩
      case round =>
        obtain ⟨j, hj, rfl, rfl⟩ := hrel
        by_cases hjl : j < 8
        · have hS := Crc.stepN_lt j (c := k) (by omega)
          go_wp2_with (go_at_call 43; refine (check_step _ (by assumption) _).mono ?_; rintro e w' ⟨rfl, rfl⟩)
          go_round
          case rel => exact ⟨j+1, by omega, by go_num, rfl⟩
          case measure => simp [intOf]; omega
        · obtain rfl : j = 8 := by omega
          have hcell : wr.cell? ⟨w.heap.size + 1, k, none⟩ = some (.int .u32 0) := cell_row H1.out (by rw [tabV_at k k hlt, if_neg (by omega)])
          have hfr : wr.frozen? ⟨w.heap.size + 1, k, none⟩ = false := frozen_of_row _ _ _ _ _ H1.out
          go_wp2_with fail
          go_roundw
          case rel => 
            refine ⟨k+1, by omega, by go_num, by simp [HS.out], ?_, ?_, hb.setCell (by simp) _⟩
            · rw [heap_setCell_other _ _ _ _ (by simp)]; exact H0.out
            · rw [heap_setCell_same _ _ _ _ _ _ H1.out, tabV_set k]
          case measure => simp [intOf]; omega
    · obtain rfl : k = 256 := by omega
      go_wp2_with (first | (refine wpList_load_row rfl 24 _ rfl (w.heap.size+1) rfl 24 (tabV 256) _ _ h1 Try.underlying24 rfl (infoTableAt 256) ?_) | (refine wpList_store_row rfl 24 _ _ rfl w.heap.size (tabV 256) rfl rfl 24 (tabV 0) h0 (infoTableAt 256) ((size_tabV 0).trans (size_tabV 256).symm) (tabV_all 256) ?_))
      refine bodyPost_ret (results_cell_row rfl _ _ w.heap.size 24 (tabV 256) (0,0) _ rfl (setRow_heap _ _ _ _ _ _ h0) Try.underlying24 rfl (infoTableAt 256)) rfl ⟨rfl, ?_⟩
      exact below_setRow hb (Nat.le_refl _) _

/-- The block that holds a table. -/
def IsTable (w : World) (g : Nat) : Prop := ∃ t fr, w.heap[g]? = some (.cells (tabV 256) t fr)
theorem IsTable.cell {w : World} {g : Nat} (h : IsTable w g) (i : Nat) (hi : i < 256) : w.cell? ⟨g, i, none⟩ = some (.int .u32 (Crc.tab i : Int)) := by
  obtain ⟨t, fr, h⟩ := h
  exact cell_row h (by rw [tabV_at _ _ hi, if_pos hi])

theorem nat_not32 (c : Nat) (h : c < 4294967296) : 4294967295 ^^^ c = 4294967295 - c := by
  have := congrArg BitVec.toNat (BitVec.allOnes_xor (x := BitVec.ofNat 32 c))
  simp only [BitVec.toNat_xor, BitVec.toNat_allOnes, BitVec.toNat_ofNat, BitVec.toNat_not] at this
  rw [Nat.mod_eq_of_lt (by simpa using h)] at this
  simpa using this
theorem u32_not (c : Nat) (h : c < 4294967296) : bits .xor .u32 IntKind.u32.max (c : Int) = ((4294967295 - c : Nat) : Int) := by
  rw [← nat_not32 c h, ← u32_xor_nat 4294967295 c (by decide) h]
  rfl
theorem runTake_succ (c : Nat) (l : List UInt8) (k : Nat) (h : k < l.length) : Crc.run c (l.take (k + 1)) = Crc.upd (Crc.run c (l.take k)) l[k].toNat := by
  rw [List.take_succ_eq_append_getElem h, Crc.run_append]
  rfl

set_option maxHeartbeats 400000 in
set_option maxRecDepth 100000 in
theorem check_More (g c : Nat) (hc : c < 4294967296) (A : Option Addr) (cap : Nat) (l : List UInt8) (w : World) (ht : IsTable w g) (hl : Bytes w A l) :
    Calls Try.prog 21 #[.pointer (some ⟨g, 0, none⟩), .int .u32 (c : Int), .slice A l.length cap] w fun e w' => e = .returned (.int .u32 (Crc.more c l : Int)) ∧ w = w' := by
  have hlen := hl.len
  have HT := Aside.mk ht; have HL := Aside.mk hl; clear ht hl
  have hnot := u32_not c hc
  go_enter Try.func21, Try.ntmps21
  go_wp2_with fail
  go_loop [1, 13] (fun v1 v13 => ∃ k : Nat, k ≤ l.length ∧ v13 = .int .i64 k ∧ v1 = .int .u32 (Crc.run (4294967295 - c) (l.take k) : Nat)) (fun _ v13 => l.length - (intOf v13).toNat)
  case atStart => exact ⟨0, by omega, rfl, rfl⟩
  case round =>
    obtain ⟨k, hk, rfl, rfl⟩ := hrel
    have hr : Crc.run (4294967295 - c) (l.take k) < 4294967296 := Crc.run_lt _ (by omega)
    have hS := fun h : k < l.length => runTake_succ (4294967295 - c) l k h
    have HE := Aside.mk (show k = l.length → 4294967295 - Crc.run (4294967295 - c) (l.take k) = Crc.more c l from fun h => by subst h; rw [List.take_length]; rfl)
    generalize Crc.run (4294967295 - c) (l.take k) = R at *
    by_cases hlt : k < l.length
    · have hltb : decide ((k : Int) < (l.length : Int)) = true := decide_eq_true (by omega)
      obtain ⟨ad, rfl, hcell⟩ := HL.out.at k hlt
      have hxb := Crc.byte_lt l[k]
      have HS := Aside.mk (hS hlt)
      clear hS hnot
      generalize l[k].toNat = x at *
      have hx1 : bits .xor .u8 ((R : Int) % 256) (x : Int) = ((R % 256 ^^^ x : Nat) : Int) := by
        rw [show (R : Int) % 256 = ((R % 256 : Nat) : Int) from by omega]; exact u8_xor_nat _ _ (by omega) hxb
      have hj : R % 256 ^^^ x < 256 := Nat.xor_lt_two_pow (n := 8) (by omega) hxb
      have HU := Aside.mk (Crc.upd_tab R x)
      generalize R % 256 ^^^ x = j at *
      have htab := HT.out.cell j hj
      have hx2 : bits .xor .u32 ((R : Int) / 256) (Crc.tab j : Int) = ((R / 256 ^^^ Crc.tab j : Nat) : Int) := by
        rw [show (R : Int) / 256 = ((R / 256 : Nat) : Int) from by omega]; exact u32_xor_nat _ _ (by omega) (Crc.tab_lt hj)
      go_wp2_with fail
      go_round
      case rel => exact ⟨k+1, by omega, by go_num, by rw [HS.out, HU.out]⟩
      case measure => simp [intOf]; omega
    · obtain rfl : k = l.length := by omega
      have hn2 := u32_not R hr
      have HE' := HE.out rfl
      clear hnot hS
      have HE2 := Aside.mk HE'
      clear HE'
      go_wp2_with fail
      go_ret
      exact ⟨by rw [← HE2.out]; rfl, rfl⟩

theorem check_Sum (g : Nat) (A : Option Addr) (cap : Nat) (l : List UInt8) (w : World) (ht : IsTable w g) (hl : Bytes w A l) :
    Calls Try.prog 19 #[.pointer (some ⟨g, 0, none⟩), .slice A l.length cap] w fun e w' => e = .returned (.int .u32 (Crc.sum l : Int)) ∧ w = w' := by
  have HT := Aside.mk ht; have HL := Aside.mk hl; clear ht hl
  go_enter Try.func19, Try.ntmps19
  go_wp2_with (go_at_call 21; refine (check_More g 0 (by decide) A cap l _ HT.out HL.out).mono ?_; rintro e w' ⟨rfl, rfl⟩)
  go_ret
  exact ⟨rfl, rfl⟩

theorem check_Sum_n (g : Nat) (A : Option Addr) (cap n : Nat) (l : List UInt8) (w : World) (ht : IsTable w g) (hl : Bytes w A l) (hn : l.length = n) :
    Calls Try.prog 19 #[.pointer (some ⟨g, 0, none⟩), .slice A n cap] w fun e w' => e = .returned (.int .u32 (Crc.sum l : Int)) ∧ w = w' := by
  subst hn
  exact check_Sum g A cap l w ht hl

set_option maxHeartbeats 400000 in
set_option maxRecDepth 100000 in
theorem check_times (g c : Nat) (hc : c < 4294967296) (F : Nat → Nat) (w : World) (hF : ∀ k, k < 32 → F k < 4294967296) (ht : ∀ k, k < 32 → w.cell? ⟨g, k, none⟩ = some (.int .u32 (F k : Int))) :
    Calls Try.prog 45 #[.pointer (some ⟨g, 0, none⟩), .int .u32 (c : Int)] w fun e w' => e = .returned (.int .u32 (Crc.pick F c 32 : Int)) ∧ w = w' := by
  have HT := Aside.mk ht; clear ht
  go_enter Try.func45, Try.ntmps45
  go_wp2_with fail
  go_loop [5, 7] (fun v5 v7 => ∃ k : Nat, k ≤ 32 ∧ v7 = .int .i64 k ∧ v5 = .int .u32 (Crc.pick F c k : Nat)) (fun _ v7 => 32 - (intOf v7).toNat)
  case atStart => exact ⟨0, by omega, rfl, rfl⟩
  case round =>
    obtain ⟨k, hk, rfl, rfl⟩ := hrel
    by_cases hlt : k < 32
    · have hltb : decide ((k : Int) < 32) = true := decide_eq_true (by omega)
      have hcell := HT.out k hlt
      have hdiv : (c : Int) / 2 ^ k = ((c / 2 ^ k : Nat) : Int) := by rw [Int.natCast_ediv, Int.natCast_pow]; rfl
      have hle : c / 2 ^ k ≤ c := Nat.div_le_self _ _
      have hand : bits .and .u32 ((c : Int) / 2 ^ k) 1 = ((c / 2 ^ k % 2 : Nat) : Int) := by
        rw [hdiv, show (1 : Int) = ((1 : Nat) : Int) from rfl, u32_and_nat _ 1 (by omega) (by decide), nat_mask1]
      have hpl : Crc.pick F c k < 4294967296 := Crc.pick_lt F c k (fun i hi => hF i (by omega))
      have hxor := u32_xor_nat _ _ hpl (hF k hlt)
      have HX := Aside.mk hxor
      have HP := Aside.mk (show Crc.pick F c (k + 1) = if c / 2 ^ k % 2 = 1 then Crc.pick F c k ^^^ F k else Crc.pick F c k from rfl)
      by_cases hbit : c / 2 ^ k % 2 = 1
      · have hb : (bits .and .u32 ((c : Int) / 2 ^ k) 1 == 1) = true := by rw [hand, hbit]; rfl
        have HB := Aside.mk hbit
        clear hand hdiv hbit hxor
        go_wp2_with fail
        go_round
        case rel => exact ⟨k+1, by omega, by go_num, by rw [HP.out, if_pos HB.out, HX.out]⟩
        case measure => simp [intOf]; omega
      · have hb : (bits .and .u32 ((c : Int) / 2 ^ k) 1 == 1) = false := by rw [hand, show c / 2 ^ k % 2 = 0 from by omega]; rfl
        have HB := Aside.mk hbit
        clear hand hdiv hbit hxor
        go_wp2_with fail
        go_round
        case rel => exact ⟨k+1, by omega, by go_num, by rw [HP.out, if_neg HB.out]⟩
        case measure => simp [intOf]; omega
    · obtain rfl : k = 32 := by omega
      go_wp2_with fail
      go_ret
      exact ⟨rfl, rfl⟩

theorem infoShift : (Try.prog.info? 72).map (fun i => (i.zero, i.size)) = some (some (.agg (Array.replicate 32 (.int .u32 0))), 32) := by kernel_rfl
theorem infoShiftSize : (Try.prog.info? 72).map (·.size) = some 32 := by kernel_rfl
/-- A shift's cells: F of the first k places, G of the others. -/
def shV (F G : Nat → Nat) (k : Nat) : Array Value := ((List.range 32).map fun n => Value.int .u32 (if n < k then (F n : Int) else (G n : Int))).toArray
theorem size_shV (F G : Nat → Nat) (k : Nat) : (shV F G k).size = 32 := by simp [shV]
theorem shV_all (F G : Nat → Nat) (k : Nat) : (shV F G k).all (·.oneCell') = true := by
  simp only [shV, List.all_toArray, List.all_eq_true, List.mem_map]
  rintro v ⟨n, _, rfl⟩; rfl
theorem shV_at (F G : Nat → Nat) (k i : Nat) (h : i < 32) : (shV F G k)[i]? = some (.int .u32 (if i < k then (F i : Int) else (G i : Int))) := by
  simp [shV, h]
theorem shV_set (F G : Nat → Nat) (k : Nat) : (shV F G k).setIfInBounds k (.int .u32 (F k : Int)) = shV F G (k+1) := by
  apply Array.ext
  · simp [shV]
  · intro i h1 h2
    simp only [shV, List.setIfInBounds_toArray, List.getElem_toArray]
    rw [List.getElem_set]
    simp only [List.getElem_map, List.getElem_range]
    split
    · rename_i h; subst h; simp
    · congr 1; congr 1; simp; omega
theorem infoShiftAt (F G : Nat → Nat) (k : Nat) : (Try.prog.info? 72).map (·.size) = some (shV F G k).size := by rw [size_shV]; exact infoShiftSize
theorem sh0 (F : Nat → Nat) : Array.replicate 32 (Value.int .u32 0) = shV F (fun _ => 0) 0 := by
  simp only [shV, Nat.not_lt_zero, if_false]; rfl

set_option maxHeartbeats 400000 in
set_option maxRecDepth 100000 in
theorem check_twice (g n : Nat) (w : World) (hg : g < w.heap.size) (ht : ∀ k, k < 32 → w.cell? ⟨g, k, none⟩ = some (.int .u32 (Crc.sh n k : Int))) :
    Calls Try.prog 46 #[.pointer (some ⟨g, 0, none⟩)] w fun e w' => e = .returned (.agg (shV (Crc.sh (2 * n)) (fun _ => 0) 32)) ∧ Below w.heap.size w w' := by
  have HT := Aside.mk ht; clear ht
  go_enter Try.func46, Try.ntmps46
  go_wp2_with fail
  go_loopw [5] (fun v5 wr => ∃ k : Nat, k ≤ 32 ∧ v5 = .int .i64 k ∧ wr.heap.size = w.heap.size + 2 ∧ wr.heap[w.heap.size]? = some (.cells (shV (Crc.sh (2 * n)) (fun _ => 0) 0) 72) ∧ wr.heap[w.heap.size + 1]? = some (.cells (shV (Crc.sh (2 * n)) (fun _ => 0) k) 72) ∧ Below w.heap.size w wr) (fun v5 _ => 32 - (intOf v5).toNat)
  case atStart =>
    refine ⟨0, by omega, rfl, by simp, ?_, ?_, ((Below.refl _ _).alloc (by omega) _).alloc (by simp) _⟩
    · rw [← sh0]; exact heap_alloc2_old _ _ _
    · rw [← sh0]; exact heap_alloc2_new _ _ _
  case round =>
    obtain ⟨k, hk, rfl, hsz, h0, h1, hb⟩ := hrel
    by_cases hlt : k < 32
    · have H0 := Aside.mk h0; have H1 := Aside.mk h1; have HS := Aside.mk hsz; clear h0 h1 hsz
      have hltb : decide ((k : Int) < 32) = true := decide_eq_true (by omega)
      have hT : ∀ k, k < 32 → wr.cell? ⟨g, k, none⟩ = some (.int .u32 (Crc.sh n k : Int)) := fun k hk => (hb.cell (p := ⟨g, k, none⟩) hg).trans (HT.out k hk)
      have hcell1 := hT k hlt
      have hcell : wr.cell? ⟨w.heap.size + 1, k, none⟩ = some (.int .u32 0) := cell_row H1.out (by rw [shV_at _ _ _ k hlt, if_neg (by omega)]; rfl)
      have hfr : wr.frozen? ⟨w.heap.size + 1, k, none⟩ = false := frozen_of_row _ _ _ _ _ H1.out
      have hl2 := Crc.sh_lt n k hlt
      have HP := Aside.mk (Crc.sh_twice n k hlt)
      have HT2 := Aside.mk hT; clear hT
      go_wp2_with (go_at_call 45; refine (check_times g _ (by assumption) (Crc.sh n) _ (fun k hk => Crc.sh_lt n k hk) HT2.out).mono ?_; rintro e w' ⟨rfl, rfl⟩; rw [HP.out])
      go_roundw
      case rel =>
        refine ⟨k+1, by omega, by go_num, by simp [HS.out], ?_, ?_, hb.setCell (by simp) _⟩
        · rw [heap_setCell_other _ _ _ _ (by simp)]; exact H0.out
        · rw [heap_setCell_same _ _ _ _ _ _ H1.out, shV_set]
      case measure => simp [intOf]; omega
    · obtain rfl : k = 32 := by omega
      go_wp2_with (first | (refine wpList_load_row rfl 72 _ rfl (w.heap.size+1) rfl 72 _ _ _ h1 Try.underlying72 rfl (infoShiftAt _ _ 32) ?_) | (refine wpList_store_row rfl 72 _ _ rfl w.heap.size (shV (Crc.sh (2 * n)) (fun _ => 0) 32) rfl rfl 72 _ h0 (infoShiftAt _ _ 32) ((size_shV _ _ 0).trans (size_shV _ _ 32).symm) (shV_all _ _ 32) ?_))
      refine bodyPost_ret (results_cell_row rfl _ _ w.heap.size 72 (shV (Crc.sh (2 * n)) (fun _ => 0) 32) (0,0) _ rfl (setRow_heap _ _ _ _ _ _ h0) Try.underlying72 rfl (infoShiftAt _ _ 32)) rfl ⟨rfl, ?_⟩
      exact below_setRow hb (Nat.le_refl _) _

set_option maxHeartbeats 400000 in
set_option maxRecDepth 100000 in
theorem check_Join (a b : Nat) (ha : a < 4294967296) (hb : b < 4294967296) (long : Int) (hlong : long ≤ 9223372036854775807) (w : World) :
    Calls Try.prog 23 #[.int .u32 (a : Int), .int .u32 (b : Int), .int .i64 long] w fun e w' => e = .returned (.int .u32 (Crc.stepN (8 * long.toNat) a ^^^ b : Nat)) ∧ Below w.heap.size w w' := by
  go_enter Try.func23, Try.ntmps23
  go_wp2_with fail
  go_loopw [11] (fun v11 wr => ∃ k : Nat, k ≤ 32 ∧ v11 = .int .i64 k ∧ wr.heap.size = w.heap.size + 1 ∧ wr.heap[w.heap.size]? = some (.cells (shV (Crc.sh 8) (fun _ => 0) k) 72) ∧ Below w.heap.size w wr) (fun v11 _ => 32 - (intOf v11).toNat)
  case atStart =>
    refine ⟨0, by omega, rfl, by simp, ?_, ((Below.refl _ _).alloc (by omega) _)⟩
    rw [← sh0]; exact heap_alloc_new _ _
  case round =>
    obtain ⟨k, hk, rfl, hsz, h0, hbl⟩ := hrel
    by_cases hlt : k < 32
    · have H0 := Aside.mk h0; have HS := Aside.mk hsz; clear h0 hsz
      have hltb : decide ((k : Int) < 32) = true := decide_eq_true (by omega)
      go_wp2_with fail
      have hlp := Nat.pow_lt_pow_right (a := 2) (by decide) hlt
      have hp : (2 : Int) ^ k % 4294967296 = ((2 ^ k : Nat) : Int) := by
        rw [show (2 : Int) ^ k = ((2 ^ k : Nat) : Int) from (Int.natCast_pow 2 k).symm]
        generalize (2 : Nat) ^ k = p at hlp ⊢
        omega
      rw [hp]
      clear hp
      have HP8 := Aside.mk (show Crc.stepN 8 (2 ^ k) = Crc.sh 8 k from rfl)
      generalize (2 : Nat) ^ k = p at hlp HP8 ⊢
      go_loop [9, 16] (fun v9 v16 => ∃ j : Nat, j ≤ 8 ∧ v16 = .int .i64 j ∧ v9 = .int .u32 (Crc.stepN j p : Nat)) (fun _ v16 => 8 - (intOf v16).toNat)
      case atStart => exact ⟨0, by omega, rfl, rfl⟩
      case round =>
        obtain ⟨j, hj, rfl, rfl⟩ := hrel
        by_cases hjl : j < 8
        · have hS := Crc.stepN_lt j (c := p) (by omega)
          go_wp2_with (go_at_call 43; refine (check_step _ (by assumption) _).mono ?_; rintro e w' ⟨rfl, rfl⟩)
          go_round
          case rel => exact ⟨j+1, by omega, by go_num, rfl⟩
          case measure => simp [intOf]; omega
        · obtain rfl : j = 8 := by omega
          have hcell : wr.cell? ⟨w.heap.size, k, none⟩ = some (.int .u32 0) := cell_row H0.out (by rw [shV_at _ _ _ k hlt, if_neg (by omega)]; rfl)
          have hfr : wr.frozen? ⟨w.heap.size, k, none⟩ = false := frozen_of_row _ _ _ _ _ H0.out
          go_wp2_with fail
          go_roundw
          case rel => 
            refine ⟨k+1, by omega, by go_num, by simp [HS.out], ?_, hbl.setCell (by simp) _⟩
            · rw [heap_setCell_same _ _ _ _ _ _ H0.out, HP8.out, shV_set]
          case measure => simp [intOf]; omega
    · obtain rfl : k = 32 := by omega
      have H0 := Aside.mk h0; have HS := Aside.mk hsz; have HB := Aside.mk hbl; clear h0 hsz hbl
      rw [show ((32 : Nat) : Int) = 32 from rfl]
      have hcase : long < 0 ∨ 0 ≤ long := by omega
      rcases hcase with hneg | hneg
      all_goals
        go_wp2_with fail
        go_loopw [0, 10] (fun v0 v10 wr => ∃ m n x : Nat, n ≤ 9223372036854775807 ∧ v10 = .int .i64 n ∧ v0 = .int .u32 (x : Int) ∧ x < 4294967296 ∧ Crc.stepN (m * n) x = Crc.stepN (8 * long.toNat) a ∧ w.heap.size < wr.heap.size ∧ wr.heap[w.heap.size]? = some (.cells (shV (Crc.sh m) (fun _ => 0) 32) 72) ∧ Below w.heap.size w wr) (fun _ v10 _ => (intOf v10).toNat)
        case atStart =>
          refine ⟨8, long.toNat, a, by omega, ?_, rfl, ha, rfl, by rw [HS.out]; omega, H0.out, HB.out⟩
          congr 1; omega
        case round =>
          clear H0 HS HB hneg
          obtain ⟨m, n, x, hn, rfl, rfl, hx, hmn, hsz, h0, hbl⟩ := hrel
          have H0 := Aside.mk h0; have HB := Aside.mk hbl; have HM := Aside.mk hmn; clear h0 hbl hmn
          by_cases hpos : 0 < n
          · have hcells : ∀ k, k < 32 → wr.cell? ⟨w.heap.size, k, none⟩ = some (.int .u32 (Crc.sh m k : Int)) := fun k hk => cell_row H0.out (by rw [shV_at _ _ _ k hk, if_pos hk])
            have HC := Aside.mk hcells; clear hcells
            have HP := Aside.mk (Crc.pick_sh m x hx)
            have hx2 := Crc.stepN_lt m hx
            have hstep : ∀ wx : World, Below wr.heap.size wr wx → (wx.setRow w.heap.size (shV (Crc.sh (2 * m)) (fun _ => 0) 32)).heap[w.heap.size]? = some (.cells (shV (Crc.sh (2 * m)) (fun _ => 0) 32) 72) := fun wx hb => setRow_heap _ _ _ _ _ (0, 0) ((hb.block _ hsz).trans H0.out)
            have HST := Aside.mk hstep; clear hstep
            by_cases hodd : n % 2 = 1
            · have hb2 : ((n : Int) % 2 == 1) = true := beq_iff_eq.2 (by omega)
              have HO := Aside.mk (show 2 * m * (n / 2) + m = m * n from by
                have : n = 2 * (n / 2) + 1 := by omega
                conv => rhs; rw [this]
                rw [Nat.mul_add, Nat.mul_one, ← Nat.mul_assoc, Nat.mul_comm m 2]); clear hodd
              go_wp2_with (first | (go_at_call 45; refine (check_times w.heap.size x hx (Crc.sh m) _ (fun k hk => Crc.sh_lt m k hk) HC.out).mono ?_; rintro e w' ⟨rfl, rfl⟩; rw [HP.out]) | (go_at_call 46; refine (check_twice w.heap.size m _ hsz HC.out).mono ?_; rintro e w1 ⟨rfl, hbw⟩; have HBW := Aside.mk hbw; clear hbw) | (refine wpList_store_row rfl 72 _ _ rfl w.heap.size (shV (Crc.sh (2 * m)) (fun _ => 0) 32) rfl rfl 72 _ ((HBW.out.block _ hsz).trans H0.out) (infoShiftAt _ _ 32) ((size_shV _ _ 32).trans (size_shV _ _ 32).symm) (shV_all _ _ 32) ?_))
              go_roundw
              case rel =>
                refine ⟨2 * m, n / 2, Crc.stepN m x, by omega, ?_, rfl, hx2, ?_, ?_, HST.out _ HBW.out, ?_⟩
                · congr 1
                · rw [← Crc.stepN_add, HO.out]; exact HM.out
                · have := HBW.out.size; simp; omega
                · exact below_setRow (HB.out.trans (HBW.out.mono (Nat.le_of_lt hsz))) (Nat.le_refl _) _
              case measure => simp [intOf]; omega
            · have hb2 : ((n : Int) % 2 == 1) = false := beq_eq_false_iff_ne.2 (by omega)
              have HO := Aside.mk (show 2 * m * (n / 2) = m * n from by
                have : n = 2 * (n / 2) := by omega
                conv => rhs; rw [this]
                rw [← Nat.mul_assoc, Nat.mul_comm m 2]); clear hodd
              go_wp2_with (first | (go_at_call 46; refine (check_twice w.heap.size m _ hsz HC.out).mono ?_; rintro e w1 ⟨rfl, hbw⟩; have HBW := Aside.mk hbw; clear hbw) | (refine wpList_store_row rfl 72 _ _ rfl w.heap.size (shV (Crc.sh (2 * m)) (fun _ => 0) 32) rfl rfl 72 _ ((HBW.out.block _ hsz).trans H0.out) (infoShiftAt _ _ 32) ((size_shV _ _ 32).trans (size_shV _ _ 32).symm) (shV_all _ _ 32) ?_))
              go_roundw
              case rel =>
                refine ⟨2 * m, n / 2, x, by omega, ?_, rfl, hx, ?_, ?_, HST.out _ HBW.out, ?_⟩
                · congr 1
                · rw [HO.out]; exact HM.out
                · have := HBW.out.size; simp; omega
                · exact below_setRow (HB.out.trans (HBW.out.mono (Nat.le_of_lt hsz))) (Nat.le_refl _) _
              case measure => simp [intOf]; omega
          · obtain rfl : n = 0 := by omega
            have hxor := u32_xor_nat x b hx hb
            have HX := Aside.mk hxor; clear hxor
            have hf : Crc.stepN (8 * long.toNat) a = x := HM.out.symm
            have HF := Aside.mk hf; clear hf
            go_wp2_with fail
            go_ret
            exact ⟨by rw [HF.out, ← HX.out]; rfl, HB.out⟩

end Go.Proofs.Ytdiapljnhlonlaa
