/- Law 07's alive: it is true. -/
import Derived.Test.YtohkjiellcikhaaGFind
import Derived.Test.YtohkjiellcikhaaP07x3
namespace Go.Proofs.Ytohkjiellcikhaa.P07
open Go.RowKit Go.Proofs.YtohkjiellcikhaaW.PrintWords Go.Proofs.YtohkjiellcikhaaW.PrintLast Go.Proofs.YtohkjiellcikhaaW.PrintMore Go.Proofs.Ytohkjiellcikhaa MF
set_option linter.unusedVariables false
set_option linter.unusedSimpArgs false

def wainloadlaw07_alive.f : Option Bool := some true
def aliveT : List S32 := [⟨97, 0, 0⟩, ⟨98, 0, 0⟩, ⟨0, 4, 2⟩]
def aliveF : List S32 := [⟨97, 0, 0⟩, ⟨0, 7, 1⟩]
theorem alive_tell : match_Tell.f 20 aliveT = some ([97, 98, 97, 98, 97, 98], true) := by kernel_rfl
theorem alive_find : match_Find.f [97, 97, 97, 97, 97, 97, 97, 97] 1 = some aliveF := by kernel_rfl
theorem alive_tell2 : match_Tell.f 20 aliveF = some ([97, 97, 97, 97, 97, 97, 97, 97], true) := by kernel_rfl
theorem alive_right : match_Right.f 20 aliveF = some true := by kernel_rfl

theorem R_lit0 {α : Type} (d : Kd α) (e : Nat) (W : World) {xs : List α} {inner : List Value} (hr : Reps (d.M (W.alloc (.cells inner.toArray e)) W.heap.size (fun k => True ∧ some k ≠ (Value.slice (some ⟨W.heap.size, 0, none⟩) xs.length xs.length).ownBlock)) d.sz xs inner) (hm : xs.length ≤ 9223372036854775807) :
    d.R e (W.alloc (.cells inner.toArray e)) W.heap.size (fun _ => True) (.slice (some ⟨W.heap.size, 0, none⟩) xs.length xs.length) xs := ⟨fun _ _ => trivial, OwnRow.lit W W.heap.size hr (Nat.le_refl _) hm⟩
theorem C_marked (W : World) (xs : List Int) (e : Nat) (fr : Nat × Nat) (hm : xs.length ≤ 9223372036854775807) : (Kd.int .u8).C (W.alloc (.cells (xs.map (Value.int .u8)).toArray e fr)) (some ⟨W.heap.size, 0, none⟩) xs.length xs := by
  refine Kd.C_of_reads (d := (0 : Int)) ⟨rfl, hm, fun _ => ⟨_, rfl, fun j hj => ?_⟩⟩
  rw [add_plain]
  exact cell_row (heap_alloc_new W _) (by simp [hj, List.getD_eq_getElem?_getD])
theorem alive_s1 : strOfNums [97, 98, 97, 98, 97, 98] = ⟨#[97, 98, 97, 98, 97, 98]⟩ := by kernel_rfl
theorem alive_s2 : strOfNums [97, 97, 97, 97, 97, 97, 97, 97] = ⟨#[97, 97, 97, 97, 97, 97, 97, 97]⟩ := by kernel_rfl
theorem conv_R {w : World} {base : Nat} {ok : Nat → Prop} {A : Option Addr} {n c : Nat} {xs : List Int} (h : (Kd.int .u8).R 5 w base ok (.slice A n c) xs) : (convert 24 9 (.slice A n c)).run Try.prog w = .ok (.string (strOfNums xs)) w :=
  own_string Try.underlying24 Try.underlying5 Try.underlying9 (Kd.own_of_R h)

theorem alive_1 (w : World) : Calls Try.prog 12 #[.slice (some ⟨w.heap.size, 0, none⟩) 3 3] (w.alloc (.cells #[.int .u8 97, .int .i64 0, .int .i64 0, .int .u8 98, .int .i64 0, .int .i64 0, .int .u8 0, .int .i64 4, .int .i64 2] 32)) fun e w' => ∃ A n c, e = .returned (.tuple #[.slice A n c, .bool true]) ∧ Aside ((Kd.int .u8).R 5 w' w.heap.size (fun _ => True) (.slice A n c) [97, 98, 97, 98, 97, 98]) ∧ Aside (Below w.heap.size w w') := by
  have hr := R_lit0 k32 32 w (xs := aliveT) (inner := [.int .u8 97, .int .i64 0, .int .i64 0, .int .u8 98, .int .i64 0, .int .i64 0, .int .u8 0, .int .i64 4, .int .i64 2]) (Reps.c3 (k32_mkM _ _ _ (⟨97, 0, 0⟩ : S32)) (Reps.c3 (k32_mkM _ _ _ (⟨98, 0, 0⟩ : S32)) (Reps.c3 (k32_mkM _ _ _ (⟨0, 4, 2⟩ : S32)) (Reps.none _ _)))) (by decide)
  refine (match_Tell.calls 20 _ 3 aliveT _ _ _ (Kd.R_reads' hr).2.2 (Nat.le_refl _) alive_tell).mono ?_
  rintro e w' ⟨v, rfl, h1, h2⟩
  obtain ⟨A, c, rfl⟩ := Kd.R_slice h1
  exact ⟨A, _, c, rfl, ⟨Kd.R_lower h1 (by simp)⟩, ⟨((Below.refl _ w).alloc (Nat.le_refl _) _).trans (h2.mono (by simp))⟩⟩
theorem alive_2 (w : World) : Calls Try.prog 16 #[.slice (some ⟨w.heap.size, 0, none⟩) 8 8, .int .i64 1] (w.alloc (.cells #[.int .u8 97, .int .u8 97, .int .u8 97, .int .u8 97, .int .u8 97, .int .u8 97, .int .u8 97, .int .u8 97] 5 (8, 8 + 1))) fun e w' => ∃ A c, e = .returned (.slice A 2 c) ∧ Aside (k32.R 32 w' w.heap.size (fun _ => True) (.slice A 2 c) aliveF) ∧ Aside (Below w.heap.size w w') := by
  have hr := C_marked w [97, 97, 97, 97, 97, 97, 97, 97] 5 (8, 8 + 1) (by decide)
  refine (match_Find.calls _ 8 [97, 97, 97, 97, 97, 97, 97, 97] 1 _ _ hr (Nat.le_refl _) alive_find).mono ?_
  rintro e w' ⟨v, rfl, h1, h2⟩
  obtain ⟨A, c, rfl⟩ := Kd.R_slice h1
  exact ⟨A, c, rfl, ⟨Kd.R_lower h1 (by simp)⟩, ⟨((Below.refl _ w).alloc (Nat.le_refl _) _).trans (h2.mono (by simp))⟩⟩
theorem alive_3 (w : World) (base : Nat) (A : Option Addr) (c : Nat) (h : k32.R 32 w base (fun _ => True) (.slice A 2 c) aliveF) : Calls Try.prog 12 #[.slice A 2 c] w fun e w' => ∃ A n c, e = .returned (.tuple #[.slice A n c, .bool true]) ∧ Aside ((Kd.int .u8).R 5 w' w.heap.size (fun _ => True) (.slice A n c) [97, 97, 97, 97, 97, 97, 97, 97]) ∧ Aside (Below w.heap.size w w') := by
  refine (match_Tell.calls 20 A c aliveF _ _ w (Kd.R_reads' h).2.2 (Kd.R_reads' h).2.1 alive_tell2).mono ?_
  rintro e w' ⟨v, rfl, h1, h2⟩
  obtain ⟨A, c, rfl⟩ := Kd.R_slice h1
  exact ⟨A, _, c, rfl, ⟨h1⟩, ⟨h2⟩⟩
theorem alive_4 (w : World) (base : Nat) (A : Option Addr) (c : Nat) (h : k32.R 32 w base (fun _ => True) (.slice A 2 c) aliveF) : Calls Try.prog 14 #[.slice A 2 c] w fun e w' => e = .returned (.bool true) ∧ Aside (Below w.heap.size w w') := by
  refine (match_Right.calls 20 A c aliveF _ w (Kd.R_reads' h).2.2 (Kd.R_reads' h).2.1 alive_right).mono ?_
  rintro e w' ⟨rfl, h2⟩
  exact ⟨rfl, ⟨h2⟩⟩

set_option maxHeartbeats 2000000 in
set_option maxRecDepth 100000 in
theorem wainloadlaw07_alive.calls (r : Bool) (w : World) (h : wainloadlaw07_alive.f = some r) :
    Calls Try.prog 11 #[] w fun e w' => e = .returned (.bool r) ∧ Below w.heap.size w w' := by
  obtain rfl := Option.some.inj h
  clear h
  have hu := Try.underlying32
  have kc := fun (w : World) (C : Array Value) (n c : Nat) => Lib.run_convert_bytes_const (P := Try.prog) w 24 5 C n c Try.underlying24 Try.underlying5
  go_enter Try.func11, Try.ntmps11
  go_wp2_with (first
    | (go_at_call 12; with_reducible refine (alive_1 w).mono ?_; rintro e w1 ⟨A1, n1, c1, rfl, HR1, HB1⟩)
    | (go_at_call 16; with_reducible refine (alive_2 w1).mono ?_; rintro e w2 ⟨A2, c2, rfl, HR2, HB2⟩)
    | (go_at_call 12; with_reducible refine (alive_3 w2 _ A2 c2 HR2.out).mono ?_; rintro e w3 ⟨A3, n3, c3, rfl, HR3, HB3⟩; have HR23 := Aside.mk (Kd.R_below HR2.out HB3.out); have hc1 := conv_R (Kd.R_below (Kd.R_step HR1.out (fun k _ hk => HB2.out.block k hk)) HB3.out); rw [alive_s1] at hc1; have hc3 := conv_R HR3.out; rw [alive_s2] at hc3)
    | (go_at_call 14; with_reducible refine (alive_4 w3 _ A2 c2 HR23.out).mono ?_; rintro e w4 ⟨rfl, HB4⟩))
  go_ret
  exact ⟨rfl, ((HB1.out.trans (HB2.out.mono HB1.out.size)).trans (HB3.out.mono (Nat.le_trans HB1.out.size HB2.out.size))).trans (HB4.out.mono (Nat.le_trans HB1.out.size (Nat.le_trans HB2.out.size HB3.out.size)))⟩

end Go.Proofs.Ytohkjiellcikhaa.P07
