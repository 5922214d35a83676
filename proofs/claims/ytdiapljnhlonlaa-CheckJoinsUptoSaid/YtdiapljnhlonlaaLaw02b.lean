/- The laws of layer 2 that make slices: CheckJoins, CheckXors, CheckBursts. -/
import Derived.Test.YtdiapljnhlonlaaLaw02
import Derived.Test.YtdiapljnhlonlaaOwn
import Derived.StillTailTactics
namespace Go.Proofs.Ytdiapljnhlonlaa
open Go.RowKit Go.Proofs.YtdiapljnhlonlaaW.PrintWords Go.Proofs.YtdiapljnhlonlaaW.PrintLast Go.Proofs.YtdiapljnhlonlaaW.PrintMore
set_option linter.unusedVariables false
set_option linter.unusedSimpArgs false

theorem infoByte : (Try.prog.info? 5).map (fun i => (i.zero, i.size, i.bytes)) = some (some (.int .u8 0), 1, 1) := by kernel_rfl

set_option maxHeartbeats 400000 in
set_option maxRecDepth 100000 in
theorem law02_CheckJoins (w : World) (A : Option Addr) (ca : Nat) (l : List UInt8) (hl : Bytes w A l) (hca : l.length ≤ ca) (hls : l.length ≤ 140737488351232)
    (B : Option Addr) (cb : Nat) (m : List UInt8) (hm : Bytes w B m) (hcb : m.length ≤ cb) (hms : m.length ≤ 140737488351232) (hsum : l.length + m.length ≤ 140737488355328) :
    Calls Try.prog 8 #[.slice A l.length ca, .slice B m.length cb] w fun e w' => e = .returned (.bool true) ∧ Below w.heap.size w w' := by
  have hz := (zero_of_info infoTable).1
  have HL := Aside.mk hl; have HM := Aside.mk hm; clear hl hm
  go_enter Try.func8, Try.ntmps8
  go_upto_region 2 with (first | (go_at_call 16; refine (check_Make _).mono ?_; rintro e w1 ⟨rfl, hb⟩; have HB := Aside.mk hb; clear hb) | (refine wpList_store_new rfl 24 _ _ rfl 24 _ _ rfl rfl (infoTableAt _) (by rw [size_tabV]; simp) (tabV_all _) ?_))
  have hT : IsTable (w1.alloc (Obj.cells (tabV 256) 24)) w1.heap.size := ⟨_, _, heap_alloc_new _ _⟩
  have hB2 := HB.out.alloc (HB.out.size) (Obj.cells (tabV 256) 24)
  generalize w1.alloc (Obj.cells (tabV 256) 24) = W at *
  have hO := OwnBytes.lit W W.heap.size 5 [] W.heap.size rfl (Nat.le_refl _) (by decide)
  have hB3 := hB2.alloc hB2.size (.cells #[] 5)
  have HT := Aside.mk hT; have HO := Aside.mk hO; have HB3 := Aside.mk hB3; have HB2 := Aside.mk hB2
  clear hT hO hB3 hz hB2
  have hsW : w.heap.size ≤ W.heap.size := HB2.out.size
  have HBE := Aside.mk (show Below w.heap.size w (W.alloc (Obj.cells (byteVals []).toArray 5)) from HB3.out)
  have HBF := Aside.mk (show Below W.heap.size W (W.alloc (Obj.cells (byteVals []).toArray 5)) from (Below.refl _ W).alloc (Nat.le_refl _) _)
  go_wp2_with (first | (at_builtin; refine wpList_app_bytes rfl (.tmp 8) (.tmp 9) 29 5 rfl W.heap.size Try.underlying29 infoByte (.slice (some ⟨W.heap.size, 0, none⟩) 0 0) [] rfl HO.out A ca l rfl (HL.out.below HB3.out) (by simp; omega) (by simp) ?_; intro A1 c1 l1 w2 HL1 HO1 HC1 HBY1 hg1; have hW1 : Below W.heap.size (W.alloc (Obj.cells (byteVals []).toArray 5)) w2 := (grown_below hg1.out (B := W.heap.size) (by simp) (by intro k hk; cases hk; exact Nat.le_refl _)); have HB4 := Aside.mk (HBE.out.trans (hW1.mono hsW)); have HB5 := Aside.mk (HBF.out.trans hW1); have hs2 : W.heap.size ≤ w2.heap.size := HB5.out.size; have hsum1 : l1.length + m.length ≤ 140737488355328 := by rw [HL1.out]; exact hsum) | (at_builtin; refine wpList_app_bytes rfl (.tmp 10) (.tmp 11) 29 5 rfl W.heap.size Try.underlying29 infoByte _ l1 rfl HO1.out B cb m rfl (HM.out.below HB4.out) hsum1 hs2 ?_; intro A2 c2 l2 w3 HL2 HO2 HC2 HBY hg2; have HW2 := Aside.mk (grown_below hg2.out hs2 (fun k hk => (World.ownsRow.lt HO1.out k hk).1)); have HT3 := Aside.mk (show IsTable w3 w1.heap.size from HT.out.below (HB5.out.trans HW2.out)); have HB6 := Aside.mk (HB4.out.trans (HW2.out.mono hsW)); have HB7 := Aside.mk (HB5.out.trans HW2.out)) | (go_at_call 19; refine (check_Sum _ _ _ l2 _ HT3.out HBY.out).mono ?_; rintro e w' ⟨rfl, rfl⟩))
  refine (law02_alive _).mono ?_
  rintro e w4 ⟨rfl, hb4⟩
  have HB8 := Aside.mk (HB6.out.trans (hb4.mono HB6.out.size))
  have HT4 := Aside.mk (HT3.out.below hb4)
  have HL4 := Aside.mk (HL.out.below HB8.out)
  have HM4 := Aside.mk (HM.out.below HB8.out)
  have H1 := Aside.mk (show Crc.sum l2 = Crc.more (Crc.sum l) m by rw [HL2.out, HL1.out]; exact Crc.sum_more l m)
  have H2 := Aside.mk (show Crc.sum l2 = Crc.stepN (8 * (m.length : Int).toNat) (Crc.sum l) ^^^ Crc.sum m by rw [HL2.out, HL1.out]; exact Crc.sum_join l m)
  clear hb4 hW1 hg1 hg2 HBY HBY1 HO1 HO2 HC1 HC2 HT3 HT HB7 HB6 HB5 HB4 HBE HBF HB2 HB3 hs2 hsum1 HL1 HL2 HW2 HO HL HM
  go_wp2_with (first | (go_at_call 19; with_reducible refine (check_Sum _ _ _ l _ HT4.out HL4.out).mono ?_; rintro e w' ⟨rfl, rfl⟩) | (go_at_call 19; with_reducible refine (check_Sum _ _ _ m _ HT4.out HM4.out).mono ?_; rintro e w' ⟨rfl, rfl⟩) | (go_at_call 21; with_reducible refine (check_More _ _ (Crc.sum_lt l) _ _ m _ HT4.out HM4.out).mono ?_; rintro e w' ⟨rfl, rfl⟩; rw [← H1.out]) | (go_at_call 23; refine (check_Join _ _ (Crc.sum_lt l) (Crc.sum_lt m) m.length (by omega) _).mono ?_; rintro e w5 ⟨rfl, hb5⟩; have HB9 := Aside.mk hb5; clear hb5; rw [← H2.out]))
  go_ret
  exact ⟨rfl, HB8.out.trans (HB9.out.mono HB8.out.size)⟩

theorem law02_CheckJoins_small (w : World) (A : Option Addr) (ca : Nat) (l : List UInt8) (hl : Bytes w A l) (hca : l.length ≤ ca) (hls : l.length ≤ 1048575)
    (B : Option Addr) (cb : Nat) (m : List UInt8) (hm : Bytes w B m) (hcb : m.length ≤ cb) (hms : m.length ≤ 1048575) :
    Calls Try.prog 8 #[.slice A l.length ca, .slice B m.length cb] w fun e w' => e = .returned (.bool true) ∧ Below w.heap.size w w' :=
  law02_CheckJoins w A ca l hl hca (by omega) B cb m hm hcb (by omega) (by omega)

/-- The bytes of a text of which the first k places are done. -/
def done (l : List UInt8) (k : Nat) : Array Value := mixRow l.length (fun i => .int .u8 ((l.getD i 0).toNat : Int)) (fun _ => .int .u8 0) k
theorem done_zero (l : List UInt8) : (List.replicate l.length (Value.int .u8 0)).toArray = done l 0 := mixRow_zero _ _ _
theorem done_get (l : List UInt8) (k : Nat) (h : k < l.length) : (done l k)[k]? = some (.int .u8 0) := by
  rw [done, mixRow_at _ _ _ _ _ h, if_neg (by omega)]
theorem done_set (l : List UInt8) (k : Nat) (v : Int) (x : UInt8) (hx : l[k]? = some x) (hv : v = (x.toNat : Int)) : (done l k).setIfInBounds k (.int .u8 v) = done l (k + 1) := by
  have : (Value.int .u8 v) = (fun i => Value.int .u8 ((l.getD i 0).toNat : Int)) k := by
    subst hv
    simp [List.getD_eq_getElem?_getD, hx]
  rw [this]
  exact mixRow_set _ _ _ k
theorem done_bytes {w : World} {g : Nat} {t : TypeId} {fr : Nat × Nat} {l : List UInt8} (hl : l.length ≤ 9223372036854775807) (hg : w.heap[g]? = some (.cells (done l l.length) t fr)) : Bytes w (some ⟨g, 0, none⟩) l :=
  Bytes.row hl hg (fun k hk => by
    rw [done, mixRow_at _ _ _ _ _ hk, if_pos hk]
    simp [List.getD_eq_getElem?_getD, hk])

set_option maxHeartbeats 400000 in
set_option maxRecDepth 100000 in
theorem law02_CheckXors (w : World) (A : Option Addr) (ca : Nat) (a : List UInt8) (ha : Bytes w A a) (hca : a.length ≤ ca) (has : a.length ≤ 140737488351232)
    (B : Option Addr) (cb : Nat) (b : List UInt8) (hb : Bytes w B b) (hcb : b.length ≤ cb) (hbs : b.length ≤ 140737488351232)
    (C : Option Addr) (cc : Nat) (c : List UInt8) (hc : Bytes w C c) (hcc : c.length ≤ cc) (hcs : c.length ≤ 140737488351232) :
    Calls Try.prog 7 #[.slice A a.length ca, .slice B b.length cb, .slice C c.length cc] w fun e w' => e = .returned (.bool true) ∧ Below w.heap.size w w' := by
  have hz := (zero_of_info infoTable).1
  have hmin := fun (wx : World) ats ty => run_min3_nat (P := Try.prog) wx ats ty .i64 a.length b.length c.length
  have hla : min (min a.length b.length) c.length ≤ a.length := by omega
  have hlb : min (min a.length b.length) c.length ≤ b.length := by omega
  have hlc : min (min a.length b.length) c.length ≤ c.length := by omega
  have HX := Aside.mk (Crc.sum_xors a b c _ rfl)
  have hx := Crc.xor3_length a b c
  have HXA := Aside.mk (fun k h1 h2 h3 => Crc.xor3_at a b c k h1 h2 h3)
  generalize min (min a.length b.length) c.length = n at *
  generalize Crc.xor3 a b c = X at *
  have HA := Aside.mk ha; have HB := Aside.mk hb; have HC := Aside.mk hc; clear ha hb hc
  go_enter Try.func7, Try.ntmps7
  go_wp2_with (at_make; refine wpList_make_one rfl _ _ 29 5 rfl Try.underlying29 _ 1 infoByte rfl n rfl rfl (by omega) (by omega) ?_)
  go_loopw [22] (fun v22 wr => ∃ k : Nat, k ≤ n ∧ v22 = .int .i64 k ∧ wr.heap.size = w.heap.size + 1 ∧ wr.heap[w.heap.size]? = some (.cells (done X k) 5) ∧ Below w.heap.size w wr) (fun v22 _ => n - (intOf v22).toNat)
  case atStart =>
    refine ⟨0, by omega, rfl, by simp, ?_, (Below.refl _ _).alloc (Nat.le_refl _) _⟩
    rw [← done_zero, hx]; exact heap_alloc_new _ _
  case round =>
    obtain ⟨k, hk, rfl, hsz, h0, hbl⟩ := hrel
    by_cases hlt : k < n
    · obtain ⟨adA, rfl, hcA⟩ := (HA.out.below hbl).at k (by omega)
      obtain ⟨adB, rfl, hcB⟩ := (HB.out.below hbl).at k (by omega)
      obtain ⟨adC, rfl, hcC⟩ := (HC.out.below hbl).at k (by omega)
      have hxk := HXA.out k (by omega) (by omega) (by omega)
      have hkX : k < X.length := by omega
      have hltb : decide ((k : Int) < (n : Int)) = true := decide_eq_true (by omega)
      have hcX : wr.cell? ⟨w.heap.size, k, none⟩ = some (.int .u8 0) := cell_row h0 (done_get X k hkX)
      have hfX : wr.frozen? ⟨w.heap.size, k, none⟩ = false := frozen_of_row _ _ _ _ _ h0
      have hb1 := Crc.byte_lt a[k]
      have hb2 := Crc.byte_lt b[k]
      have hb3 := Crc.byte_lt c[k]
      have HD := Aside.mk (fun v hv => done_set X k v _ hxk hv)
      have HN := Aside.mk (show (a[k] ^^^ b[k] ^^^ c[k]).toNat = a[k].toNat ^^^ b[k].toNat ^^^ c[k].toNat by rw [UInt8.toNat_xor, UInt8.toNat_xor])
      have hb4 : a[k].toNat ^^^ b[k].toNat < 256 := Nat.xor_lt_two_pow (n := 8) hb1 hb2
      have hx1 := u8_xor_nat _ _ hb1 hb2
      have hx2 := u8_xor_nat _ _ hb4 hb3
      have H0 := Aside.mk h0; have HS := Aside.mk hsz; have HBL := Aside.mk hbl
      clear h0 hsz hbl hxk
      go_wp2_with fail
      have hkA : k < a.length := by omega
      have hkB : k < b.length := by omega
      have hkC : k < c.length := by omega
      go_still_tail 17, (by kernel_rfl)
      change wpList _ _ _ _ _ wr.drew
      go_wp2_with fail
      go_roundw
      case rel =>
        exact ⟨k + 1, by omega, by go_num, by simp [HS.out], (heap_setCell_same wr w.heap.size k _ _ _ H0.out).trans (by rw [HD.out _ (by rw [HN.out])]), (HBL.out.setCell (by simp) _).drew⟩
      case measure => simp [intOf]; omega
    · obtain rfl : k = n := by omega
      have hltb : decide ((k : Int) < (k : Int)) = false := decide_eq_false (by omega)
      have H0 := Aside.mk h0; have HS := Aside.mk hsz; have HBL := Aside.mk hbl
      clear h0 hsz hbl HXA hmin
      have hxk := hx
      subst hx
      go_upto_region 9 with (first | (go_at_call 16; refine (check_Make _).mono ?_; rintro e w1 ⟨rfl, hb⟩; have HB1 := Aside.mk hb; clear hb) | (refine wpList_store_new rfl 24 _ _ rfl 24 _ _ rfl rfl (infoTableAt _) (by rw [size_tabV]; simp) (tabV_all _) ?_))
      have hT : IsTable (w1.alloc (Obj.cells (tabV 256) 24)) w1.heap.size := ⟨_, _, heap_alloc_new _ _⟩
      have hsw : w.heap.size < wr.heap.size := by rw [HS.out]; omega
      have hB2 : Below wr.heap.size wr (w1.alloc (Obj.cells (tabV 256) 24)) := HB1.out.alloc (HB1.out.size) _
      have hB3 := HBL.out.trans (hB2.mono (Nat.le_of_lt hsw))
      have hX : Bytes (w1.alloc (Obj.cells (tabV 256) 24)) (some ⟨w.heap.size, 0, none⟩) X := done_bytes (by omega) ((hB2.block _ hsw).trans H0.out)
      generalize w1.alloc (Obj.cells (tabV 256) 24) = W at *
      have HB3 := Aside.mk hB3
      have hall : ∀ Wx : World, Below W.heap.size W Wx → Aside (IsTable Wx w1.heap.size) ∧ Aside (Bytes Wx (some ⟨w.heap.size, 0, none⟩) X) ∧ Aside (Bytes Wx A (a.take X.length)) ∧ Aside (Bytes Wx B (b.take X.length)) ∧ Aside (Bytes Wx C (c.take X.length)) := fun Wx hb => by
        have hb' := HB3.out.trans (hb.mono HB3.out.size)
        exact ⟨⟨hT.below hb⟩, ⟨hX.below hb⟩, ⟨(HA.out.below hb').take _ hla⟩, ⟨(HB.out.below hb').take _ hlb⟩, ⟨(HC.out.below hb').take _ hlc⟩⟩
      have HALL := Aside.mk hall
      have hla2 : (a.take X.length).length = X.length := by simp; omega
      have hlb2 : (b.take X.length).length = X.length := by simp; omega
      have hlc2 : (c.take X.length).length = X.length := by simp; omega
      have HLA := Aside.mk hla2; have HLB := Aside.mk hlb2; have HLC := Aside.mk hlc2
      have hs1 := Crc.sum_lt (a.take X.length); have hs2 := Crc.sum_lt (b.take X.length); have hs3 := Crc.sum_lt (c.take X.length)
      have hx5 := u32_xor_nat _ _ hs1 hs2
      have hs4 : Crc.sum (a.take X.length) ^^^ Crc.sum (b.take X.length) < 4294967296 := Nat.xor_lt_two_pow (n := 32) hs1 hs2
      have hx6 := u32_xor_nat _ _ hs4 hs3
      generalize a.take X.length = la at *
      generalize b.take X.length = lb at *
      generalize c.take X.length = lc at *
      have hca2 : X.length ≤ ca := by omega
      have hcb2 : X.length ≤ cb := by omega
      have hcc2 : X.length ≤ cc := by omega
      clear hT hsw hB2 hB3 hX hall hla2 hlb2 hlc2 H0 HS HBL HB1 hk hlt hz
      refine wp_region_head (by kernel_rfl) (by kernel_rfl) rfl ?_
      go_wp2_with (go_at_call 17; refine (law02_alive _).mono ?_; rintro e w2 ⟨rfl, hb⟩; have HB9 := Aside.mk ((Below.refl _ W).drew.trans hb); clear hb; obtain ⟨h1, h2, h3, h4, h5⟩ := HALL.out _ HB9.out)
      have hT9 := fun n => h1.out.below (pw_below_drewN (Below.refl w2.heap.size w2) n)
      have HT9 := Aside.mk hT9; clear hT9
      repeat (go_big_quiet_step ((first | (go_at_call 19; with_reducible exact quiet_same (check_Sum_n _ _ _ _ X _ (HT9.out _) (h2.out.drewN _) rfl)) | (go_at_call 19; with_reducible exact quiet_same (check_Sum_n _ _ _ _ la _ (HT9.out _) (h3.out.drewN _) HLA.out)) | (go_at_call 19; with_reducible exact quiet_same (check_Sum_n _ _ _ _ lb _ (HT9.out _) (h4.out.drewN _) HLB.out)) | (go_at_call 19; with_reducible exact quiet_same (check_Sum_n _ _ _ _ lc _ (HT9.out _) (h5.out.drewN _) HLC.out)))))
      refine wpQuiet_nil ?_
      intro nq
      go_wp2_with fail
      go_ret
      refine ⟨?_, HB3.out.trans ((pw_below_drewN HB9.out nq).mono HB3.out.size)⟩
      have hfin : ((Crc.sum X : Int) == ((Crc.sum la ^^^ Crc.sum lb ^^^ Crc.sum lc : Nat) : Int)) = true := by
        rw [HX.out]; simp
      rw [← hfin]
      rfl

end Go.Proofs.Ytdiapljnhlonlaa
