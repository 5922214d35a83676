/- The laws of layer 2, walked: what each Go function of the statements computes. -/
import Derived.Test.YtdiapljnhlonlaaRef02
import Derived.Deep.RegionWith
import Derived.Deep.RegionHeld3
namespace Go.Proofs.Ytdiapljnhlonlaa
open Go.RowKit Go.Proofs.YtdiapljnhlonlaaW.PrintWords Go.Proofs.YtdiapljnhlonlaaW.PrintLast Go.Proofs.YtdiapljnhlonlaaW.PrintMore
set_option linter.unusedVariables false
set_option linter.unusedSimpArgs false

theorem sum_digits : Crc.sum [49, 50, 51, 52, 53, 54, 55, 56, 57] = 3421780262 := by decide +kernel
theorem tab_one : Crc.tab 1 = 1996959894 := by decide +kernel

set_option maxHeartbeats 400000 in
set_option maxRecDepth 100000 in
theorem law02_alive (w : World) : Calls Try.prog 17 #[] w fun e w' => e = .returned (.bool true) ∧ Below w.heap.size w w' := by
  have hz := (zero_of_info infoTable).1
  have kc := fun (w : World) (C : Array Value) (n c g : Nat) (hg : g = w.heap.size) => Joins.run_convert_bytes_const_at (P := Try.prog) w 29 5 C n c g hg Try.underlying29 Try.underlying5
  go_enter Try.func17, Try.ntmps17
  go_wp2_with (first | (go_at_call 16; refine (check_Make _).mono ?_; rintro e w1 ⟨rfl, hb⟩; have HB := Aside.mk hb; clear hb) | (refine wpList_store_new rfl 24 _ _ rfl 24 _ _ rfl rfl (infoTableAt _) (by rw [size_tabV]; simp) (tabV_all _) ?_))
  refine (check_Sum w1.heap.size _ 9 [49, 50, 51, 52, 53, 54, 55, 56, 57] _ ⟨_, _, (Below.heap_alloc _ _ _ (by simp)).trans (heap_alloc_new _ _)⟩ (Bytes.lit _ (by decide) (heap_alloc_last' _ _ _ (by simp)))).mono ?_
  rintro e w' ⟨rfl, rfl⟩
  have hcell := IsTable.cell (w := (w1.alloc (Obj.cells (tabV 256) 24)).alloc (Obj.cells #[Value.int IntKind.u8 49, Value.int IntKind.u8 50, Value.int IntKind.u8 51, Value.int IntKind.u8 52, Value.int IntKind.u8 53, Value.int IntKind.u8 54, Value.int IntKind.u8 55, Value.int IntKind.u8 56, Value.int IntKind.u8 57] 5 (9, 10))) (g := w1.heap.size) ⟨_, _, (Below.heap_alloc _ _ _ (by simp)).trans (heap_alloc_new _ _)⟩ 1 (by decide)
  rw [tab_one] at hcell
  rw [sum_digits]
  clear kc hz
  go_wp2_with fail
  go_ret
  exact ⟨rfl, (HB.out.alloc (HB.out.size) _).alloc (by have := HB.out.size; simp; omega) _⟩

theorem IsTable.below {w w1 : World} {g : Nat} (h : IsTable w g) (hb : Below w.heap.size w w1) : IsTable w1 g := by
  obtain ⟨t, fr, h⟩ := h
  exact ⟨t, fr, (hb.block g (Array.getElem?_eq_some_iff.1 h).1).trans h⟩

set_option maxHeartbeats 400000 in
set_option maxRecDepth 100000 in
theorem law02_CheckSums (w : World) (A : Option Addr) (cap : Nat) (l : List UInt8) (hl : Bytes w A l) (hc : l.length ≤ cap) (hs : l.length ≤ 140737488351232) :
    Calls Try.prog 4 #[.slice A l.length cap] w fun e w' => e = .returned (.bool true) ∧ Below w.heap.size w w' := by
  have hz := (zero_of_info infoTable).1
  have HL := Aside.mk hl; clear hl
  go_enter Try.func4, Try.ntmps4
  go_wp2_with (first | (go_at_call 16; refine (check_Make _).mono ?_; rintro e w1 ⟨rfl, hb⟩; have HB := Aside.mk hb; clear hb) | (go_at_call 17; fail) | (refine wpList_store_new rfl 24 _ _ rfl 24 _ _ rfl rfl (infoTableAt _) (by rw [size_tabV]; simp) (tabV_all _) ?_))
  have hT : IsTable (w1.alloc (Obj.cells (tabV 256) 24)) w1.heap.size := ⟨_, _, heap_alloc_new _ _⟩
  have HB2 := Aside.mk (HB.out.alloc (HB.out.size) (Obj.cells (tabV 256) 24))
  generalize w1.alloc (Obj.cells (tabV 256) 24) = W at *
  refine (law02_alive _).mono ?_
  rintro e w2 ⟨rfl, hb3⟩
  have HB4 := Aside.mk (HB2.out.trans (hb3.mono HB2.out.size))
  have HT := Aside.mk (hT.below hb3)
  have HL2 := Aside.mk (HL.out.below HB4.out)
  clear hT hz hb3
  go_wp2_with (first | (go_at_call 19; refine (check_Sum _ _ _ l _ HT.out HL2.out).mono ?_; rintro e w' ⟨rfl, rfl⟩) | (go_at_call 20; refine (ref02_Sum _ _ l _ HL2.out).mono ?_; rintro e w' ⟨rfl, rfl⟩))
  go_ret
  exact ⟨rfl, HB4.out⟩

set_option maxHeartbeats 400000 in
set_option maxRecDepth 100000 in
theorem law02_CheckMores (w : World) (c : Nat) (hcc : c < 4294967296) (A : Option Addr) (cap : Nat) (l : List UInt8) (hl : Bytes w A l) (hc : l.length ≤ cap) (hs : l.length ≤ 140737488351232) :
    Calls Try.prog 5 #[.int .u32 (c : Int), .slice A l.length cap] w fun e w' => e = .returned (.bool true) ∧ Below w.heap.size w w' := by
  have hz := (zero_of_info infoTable).1
  have HL := Aside.mk hl; clear hl
  go_enter Try.func5, Try.ntmps5
  go_wp2_with (first | (go_at_call 16; refine (check_Make _).mono ?_; rintro e w1 ⟨rfl, hb⟩; have HB := Aside.mk hb; clear hb) | (go_at_call 17; fail) | (refine wpList_store_new rfl 24 _ _ rfl 24 _ _ rfl rfl (infoTableAt _) (by rw [size_tabV]; simp) (tabV_all _) ?_))
  have hT : IsTable (w1.alloc (Obj.cells (tabV 256) 24)) w1.heap.size := ⟨_, _, heap_alloc_new _ _⟩
  have HB2 := Aside.mk (HB.out.alloc (HB.out.size) (Obj.cells (tabV 256) 24))
  generalize w1.alloc (Obj.cells (tabV 256) 24) = W at *
  refine (law02_alive _).mono ?_
  rintro e w2 ⟨rfl, hb3⟩
  have HB4 := Aside.mk (HB2.out.trans (hb3.mono HB2.out.size))
  have HT := Aside.mk (hT.below hb3)
  have HL2 := Aside.mk (HL.out.below HB4.out)
  clear hT hz hb3
  go_wp2_with (first | (go_at_call 21; refine (check_More _ c hcc _ _ l _ HT.out HL2.out).mono ?_; rintro e w' ⟨rfl, rfl⟩) | (go_at_call 22; refine (ref02_More c hcc _ _ l _ HL2.out).mono ?_; rintro e w' ⟨rfl, rfl⟩))
  go_ret
  exact ⟨rfl, HB4.out⟩

set_option maxHeartbeats 400000 in
set_option maxRecDepth 100000 in
theorem law02_CheckAny (w : World) (a : Nat) (ha : a < 4294967296) (b : Nat) (hb : b < 4294967296) (long : Int) (hlo : -9223372036854775808 ≤ long) (hhi : long ≤ 9223372036854775807) :
    Calls Try.prog 9 #[.int .u32 (a : Int), .int .u32 (b : Int), .int .i64 long] w fun e w' => e = .returned (.bool true) ∧ Below w.heap.size w w' := by
  by_cases h : long ≤ 5000
  · have h1 : decide (5000 < long) = false := decide_eq_false (by omega)
    have h2 : decide (long > 5000) = false := h1
    go_enter Try.func9, Try.ntmps9
    go_wp2_with (first | (go_at_call 17; refine (law02_alive _).mono ?_; rintro e w1 ⟨rfl, hb⟩; have HB := Aside.mk hb; clear hb) | (go_at_call 23; refine (check_Join a b ha hb long hhi _).mono ?_; rintro e w2 ⟨rfl, hb⟩; have HB2 := Aside.mk hb; clear hb) | (go_at_call 24; refine (ref02_Join a b ha hb long hhi _).mono ?_; rintro e w' ⟨rfl, rfl⟩))
    go_ret
    exact ⟨rfl, HB.out.trans (HB2.out.mono HB.out.size)⟩
  · have h1 : decide (5000 < long) = true := decide_eq_true (by omega)
    have h2 : decide (long > 5000) = true := h1
    go_enter Try.func9, Try.ntmps9
    go_wp2_with (first | (go_at_call 17; refine (law02_alive _).mono ?_; rintro e w1 ⟨rfl, hb⟩; have HB := Aside.mk hb; clear hb))
    go_ret
    exact ⟨rfl, HB.out⟩

set_option maxHeartbeats 400000 in
set_option maxRecDepth 100000 in
theorem law02_CheckTables (w : World) (n : Nat) (hn : n < 256) : Calls Try.prog 3 #[.int .u8 (n : Int)] w fun e w' => e = .returned (.bool true) ∧ Below w.heap.size w w' := by
  have hz := (zero_of_info infoTable).1
  go_enter Try.func3, Try.ntmps3
  go_wp2_with (first | (go_at_call 16; refine (check_Make _).mono ?_; rintro e w1 ⟨rfl, hb⟩; have HB := Aside.mk hb; clear hb) | (refine wpList_store_new rfl 24 _ _ rfl 24 _ _ rfl rfl (infoTableAt _) (by rw [size_tabV]; simp) (tabV_all _) ?_))
  have hT : IsTable (w1.alloc (Obj.cells (tabV 256) 24)) w1.heap.size := ⟨_, _, heap_alloc_new _ _⟩
  have HB2 := Aside.mk (HB.out.alloc (HB.out.size) (Obj.cells (tabV 256) 24))
  have hS : w1.heap.size < (w1.alloc (Obj.cells (tabV 256) 24)).heap.size := by simp
  generalize w1.alloc (Obj.cells (tabV 256) 24) = W at *
  have HT := Aside.mk hT
  clear hT hz
  have hg : w1.heap.size < W.heap.size := hS
  have hcell : ∀ Wx : World, Below W.heap.size W Wx → Wx.cell? ⟨w1.heap.size, n, none⟩ = some (.int .u32 (Crc.stepN 8 n : Int)) := fun Wx hb => (hb.cell (p := ⟨w1.heap.size, n, none⟩) hS).trans (HT.out.cell n hn)
  have HC := Aside.mk hcell; clear hcell
  have hw32 : IntKind.u32.wrap (n : Int) = n := by rw [IntKind.wrap_u32']; omega
  go_region_with (first | (go_at_call 17; refine (law02_alive _).mono ?_; rintro e w2 ⟨rfl, hb⟩; have hc := HC.out _ ((Below.refl _ W).drew.trans hb); have HB3 := Aside.mk ((Below.refl _ W).drew.trans hb); clear hb) | (go_at_call 18; refine (ref02_Eight n (by omega) _).mono ?_; rintro e w' ⟨rfl, rfl⟩))
  all_goals
    go_wp2_with fail
    go_ret
    exact ⟨rfl, (HB2.out).trans (HB3.out.mono (show w.heap.size ≤ W.heap.size by have := HB.out.size; omega))⟩


end Go.Proofs.Ytdiapljnhlonlaa
