/- The walk of the law BitsParts. -/
import Derived.Test.YtdiapljnhlonlaaAliveB
namespace Go.Proofs.Ytdiapljnhlonlaa
open Go.RowKit Go.Proofs.YtdiapljnhlonlaaW.PrintWords Go.Proofs.YtdiapljnhlonlaaW.PrintLast Go.Proofs.YtdiapljnhlonlaaW.PrintMore
set_option linter.unusedVariables false
set_option linter.unusedSimpArgs false

theorem nil_of_row {k : IntKind} {w : World} {a : Option Addr} {len cap : Nat} {zs : List Int} (h : IsRow k w a len cap zs) : a = none → cap = 0 := by
  rcases h with ⟨rfl, rfl, rfl, rfl⟩ | ⟨x, rfl, _⟩
  · exact fun _ => rfl
  · intro e; cases e
theorem Bytes.lt {w : World} {A : Option Addr} {l : List UInt8} (hl : Bytes w A l) : ∀ ad, A = some ad → 0 < l.length → ad.block < w.heap.size := by
  intro ad e hp
  obtain ⟨ad', e', hc'⟩ := hl.at 0 hp
  rw [e] at e'; injection e' with e'; subst e'
  have := World.block_lt_of_cell? w _ hc'
  have he : (ad.add 0).block = ad.block := by unfold Addr.add; split <;> rfl
  omega
theorem bits_NewReader_at (w : World) (A : Option Addr) (c : Nat) (l : List UInt8) (B : Nat) (hB : ∀ ad, A = some ad → 0 < l.length → ad.block < B) (hl : Bytes w A l) (hc : l.length ≤ c) (hs : l.length ≤ 140737488355328) (hn : A = none → c = 0) :
    Calls Try.prog 28 #[.slice A l.length c] w fun e w' => ∃ g, e = .returned (.pointer (some ⟨g, 0, none⟩)) ∧ Aside (IsReader w' B g l 0) ∧ Aside (Below w.heap.size w w') ∧ Aside (w.heap.size ≤ g) := by
  have HL := Aside.mk hl; clear hl
  have HBK := Aside.mk hB; clear hB
  go_enter Try.func28, Try.ntmps28
  go_wp2_with fail
  go_ret
  have hb := (Below.refl _ w).alloc (Nat.le_refl _) (Obj.cells #[.slice A l.length c, .int .i64 0] 79)
  exact ⟨w.heap.size, rfl, ⟨A, c, heap_alloc_new _ _, HL.out.below hb, hc, by omega, hs, hn, HBK.out⟩, ⟨hb⟩, ⟨Nat.le_refl _⟩⟩
theorem bits_yes (w : World) (B g : Nat) (l : List UInt8) (p : Nat) (h : IsReader w B g l p) (x : Int) (n : Nat) (hx : x = (n : Int)) (hn : n ≤ 24) (hl : n ≤ 8 * l.length - p) (V : Int) (hV : ((PB.tk (PB.num l) p n : Nat) : Int) = V) (q : Nat) (hq : q = p + n) :
    Calls Try.prog 29 #[.pointer (some ⟨g, 0, none⟩), .int .i64 x] w fun e w' => e = .returned (.tuple #[.int .i64 V, .bool true]) ∧ Aside (IsReader w' B g l q) ∧ Aside (Only w w' (fun k => k = g)) := by
  subst hx hV hq
  refine (bits_Bits_yes w B g l p h n hn hl).mono ?_
  rintro e w' ⟨h1, h2, h3, _⟩
  exact ⟨h1, ⟨h2⟩, ⟨h3⟩⟩
theorem bits_no (w : World) (B g : Nat) (l : List UInt8) (p : Nat) (h : IsReader w B g l p) (x : Int) (hx : x < 0 ∨ 24 < x ∨ ((8 * l.length - p : Nat) : Int) < x) :
    Calls Try.prog 29 #[.pointer (some ⟨g, 0, none⟩), .int .i64 x] w fun e w' => e = .returned (.tuple #[.int .i64 0, .bool false]) ∧ Aside (IsReader w' B g l p) ∧ Aside (Only w w' (fun k => k = g)) := by
  refine (bits_Bits_no w B g l p h x hx).mono ?_
  rintro e w' ⟨h1, m, rfl⟩
  exact ⟨h1, ⟨h.drewN m⟩, ⟨(Only.refl w _).drewN m⟩⟩
theorem bits_left (w : World) (B g : Nat) (l : List UInt8) (p : Nat) (h : IsReader w B g l p) (Z : Int) (hZ : ((8 * l.length - p : Nat) : Int) = Z) :
    Calls Try.prog 30 #[.pointer (some ⟨g, 0, none⟩)] w fun e w' => e = .returned (.int .i64 Z) ∧ ∃ m, w' = w.drewN m := by
  subst hZ
  exact bits_Left w B g l p h
theorem parts_or (N n m : Nat) (h : n + m ≤ 24) (V X Y : Int) (hV : ((PB.tk N 0 (n + m) : Nat) : Int) = V) (hX : ((PB.tk N 0 n : Nat) : Int) = X) (hY : ((PB.tk N n m : Nat) : Int) = Y) :
    bits .or .i64 X (wrap64 (Y * 2 ^ n)) = V := by
  subst hV hX hY
  have h1 := PB.tk_small N n m n h
  have h2 := PB.tk_small' N 0 n (by omega)
  have h3 := PB.tk_or N 0 n m
  rw [Nat.zero_add] at h3
  rw [wrap_shl' _ _ _ rfl (by omega), i64_or_nat _ _ (by omega) (by omega), h3]
set_option maxHeartbeats 1000000 in
set_option maxRecDepth 100000 in
theorem parts_early1 (w : World) (A : Option Addr) (c : Nat) (l : List UInt8) (hl : Bytes w A l) (hc : l.length ≤ c) (hs : l.length ≤ 140737488351232) (hnil : A = none → c = 0) (nn mm : Int) (h1 : decide (nn < 0) = true) :
    Calls Try.prog 11 #[.slice A l.length c, .int .i64 nn, .int .i64 mm] w fun e w' => e = .returned (.bool true) ∧ Below w.heap.size w w' := by
  have HBK := Aside.mk hl.lt
  have HL := Aside.mk hl; clear hl
  go_enter Try.func11, Try.ntmps11
  go_wp2_with (first
    | (go_at_call 28; with_reducible refine (bits_NewReader_at w A c l w.heap.size HBK.out HL.out hc (by omega) hnil).mono ?_; rintro e w1 ⟨g1, rfl, HR1, HB1, HG1⟩)
    | (go_at_call 28; with_reducible refine (bits_NewReader_at w1 A c l w.heap.size HBK.out (HL.out.below HB1.out) hc (by omega) hnil).mono ?_; rintro e w2 ⟨g2, rfl, HR2, HB2, HG2⟩; have HR12 := Aside.mk (HR1.out.below HB2.out); have HNE := Aside.mk (show g1 = g2 → False from (by intro e; have h1 := HR1.out.lt; have h2 := HG2.out; omega)); have HGE := Aside.mk (show w.heap.size ≤ g2 from Nat.le_trans HB1.out.size HG2.out))
    | (go_at_call 26; with_reducible refine (law01_alive w2).mono ?_; rintro e w3 ⟨rfl, hb3⟩; have HB3 := Aside.mk hb3))
  go_ret
  exact ⟨rfl, (HB1.out.trans (HB2.out.mono HB1.out.size)).trans (HB3.out.mono (Nat.le_trans HB1.out.size HB2.out.size))⟩
set_option maxHeartbeats 1000000 in
set_option maxRecDepth 100000 in
theorem parts_early2 (w : World) (A : Option Addr) (c : Nat) (l : List UInt8) (hl : Bytes w A l) (hc : l.length ≤ c) (hs : l.length ≤ 140737488351232) (hnil : A = none → c = 0) (nn mm : Int) (h1 : decide (nn < 0) = false) (h2 : decide (mm < 0) = true) :
    Calls Try.prog 11 #[.slice A l.length c, .int .i64 nn, .int .i64 mm] w fun e w' => e = .returned (.bool true) ∧ Below w.heap.size w w' := by
  have HBK := Aside.mk hl.lt
  have HL := Aside.mk hl; clear hl
  go_enter Try.func11, Try.ntmps11
  go_wp2_with (first
    | (go_at_call 28; with_reducible refine (bits_NewReader_at w A c l w.heap.size HBK.out HL.out hc (by omega) hnil).mono ?_; rintro e w1 ⟨g1, rfl, HR1, HB1, HG1⟩)
    | (go_at_call 28; with_reducible refine (bits_NewReader_at w1 A c l w.heap.size HBK.out (HL.out.below HB1.out) hc (by omega) hnil).mono ?_; rintro e w2 ⟨g2, rfl, HR2, HB2, HG2⟩; have HR12 := Aside.mk (HR1.out.below HB2.out); have HNE := Aside.mk (show g1 = g2 → False from (by intro e; have h1 := HR1.out.lt; have h2 := HG2.out; omega)); have HGE := Aside.mk (show w.heap.size ≤ g2 from Nat.le_trans HB1.out.size HG2.out))
    | (go_at_call 26; with_reducible refine (law01_alive w2).mono ?_; rintro e w3 ⟨rfl, hb3⟩; have HB3 := Aside.mk hb3))
  go_ret
  exact ⟨rfl, (HB1.out.trans (HB2.out.mono HB1.out.size)).trans (HB3.out.mono (Nat.le_trans HB1.out.size HB2.out.size))⟩
set_option maxHeartbeats 1000000 in
set_option maxRecDepth 100000 in
theorem parts_early3 (w : World) (A : Option Addr) (c : Nat) (l : List UInt8) (hl : Bytes w A l) (hc : l.length ≤ c) (hs : l.length ≤ 140737488351232) (hnil : A = none → c = 0) (nn mm : Int) (h1 : decide (nn < 0) = false) (h2 : decide (mm < 0) = false) (h3 : decide (24 < nn) = true) :
    Calls Try.prog 11 #[.slice A l.length c, .int .i64 nn, .int .i64 mm] w fun e w' => e = .returned (.bool true) ∧ Below w.heap.size w w' := by
  have HBK := Aside.mk hl.lt
  have HL := Aside.mk hl; clear hl
  go_enter Try.func11, Try.ntmps11
  go_wp2_with (first
    | (go_at_call 28; with_reducible refine (bits_NewReader_at w A c l w.heap.size HBK.out HL.out hc (by omega) hnil).mono ?_; rintro e w1 ⟨g1, rfl, HR1, HB1, HG1⟩)
    | (go_at_call 28; with_reducible refine (bits_NewReader_at w1 A c l w.heap.size HBK.out (HL.out.below HB1.out) hc (by omega) hnil).mono ?_; rintro e w2 ⟨g2, rfl, HR2, HB2, HG2⟩; have HR12 := Aside.mk (HR1.out.below HB2.out); have HNE := Aside.mk (show g1 = g2 → False from (by intro e; have h1 := HR1.out.lt; have h2 := HG2.out; omega)); have HGE := Aside.mk (show w.heap.size ≤ g2 from Nat.le_trans HB1.out.size HG2.out))
    | (go_at_call 26; with_reducible refine (law01_alive w2).mono ?_; rintro e w3 ⟨rfl, hb3⟩; have HB3 := Aside.mk hb3))
  go_ret
  exact ⟨rfl, (HB1.out.trans (HB2.out.mono HB1.out.size)).trans (HB3.out.mono (Nat.le_trans HB1.out.size HB2.out.size))⟩
set_option maxHeartbeats 1000000 in
set_option maxRecDepth 100000 in
theorem parts_early4 (w : World) (A : Option Addr) (c : Nat) (l : List UInt8) (hl : Bytes w A l) (hc : l.length ≤ c) (hs : l.length ≤ 140737488351232) (hnil : A = none → c = 0) (nn mm : Int) (h1 : decide (nn < 0) = false) (h2 : decide (mm < 0) = false) (h3 : decide (24 < nn) = false) (h5 : 0 ≤ nn) (h6 : nn ≤ 24) (h4 : decide (24 - nn < mm) = true) :
    Calls Try.prog 11 #[.slice A l.length c, .int .i64 nn, .int .i64 mm] w fun e w' => e = .returned (.bool true) ∧ Below w.heap.size w w' := by
  have HBK := Aside.mk hl.lt
  have HL := Aside.mk hl; clear hl
  go_enter Try.func11, Try.ntmps11
  go_wp2_with (first
    | (go_at_call 28; with_reducible refine (bits_NewReader_at w A c l w.heap.size HBK.out HL.out hc (by omega) hnil).mono ?_; rintro e w1 ⟨g1, rfl, HR1, HB1, HG1⟩)
    | (go_at_call 28; with_reducible refine (bits_NewReader_at w1 A c l w.heap.size HBK.out (HL.out.below HB1.out) hc (by omega) hnil).mono ?_; rintro e w2 ⟨g2, rfl, HR2, HB2, HG2⟩; have HR12 := Aside.mk (HR1.out.below HB2.out); have HNE := Aside.mk (show g1 = g2 → False from (by intro e; have h1 := HR1.out.lt; have h2 := HG2.out; omega)); have HGE := Aside.mk (show w.heap.size ≤ g2 from Nat.le_trans HB1.out.size HG2.out))
    | (go_at_call 26; with_reducible refine (law01_alive w2).mono ?_; rintro e w3 ⟨rfl, hb3⟩; have HB3 := Aside.mk hb3))
  go_ret
  exact ⟨rfl, (HB1.out.trans (HB2.out.mono HB1.out.size)).trans (HB3.out.mono (Nat.le_trans HB1.out.size HB2.out.size))⟩
set_option maxHeartbeats 1000000 in
set_option maxRecDepth 100000 in
theorem parts_one (w : World) (A : Option Addr) (c : Nat) (l : List UInt8) (hl : Bytes w A l) (hc : l.length ≤ c) (hs : l.length ≤ 140737488351232) (hnil : A = none → c = 0) (n m : Nat) (hnm : n + m ≤ 24) (hle : n + m ≤ 8 * l.length) :
    Calls Try.prog 11 #[.slice A l.length c, .int .i64 (n : Int), .int .i64 (m : Int)] w fun e w' => e = .returned (.bool true) ∧ Below w.heap.size w w' := by
  have HBK := Aside.mk hl.lt
  have HL := Aside.mk hl; clear hl
  have t1 : decide ((n : Int) < 0) = false := decide_eq_false (by omega)
  have t2 : decide ((m : Int) < 0) = false := decide_eq_false (by omega)
  have t3 : decide (24 < (n : Int)) = false := decide_eq_false (by omega)
  have t3' : decide (24 < n) = false := decide_eq_false (by omega)
  have t4 : decide (24 - (n : Int) < (m : Int)) = false := decide_eq_false (by omega)
  obtain ⟨V, hV⟩ : ∃ V : Int, ((PB.tk (PB.num l) 0 (n + m) : Nat) : Int) = V := ⟨_, rfl⟩
  obtain ⟨X, hX⟩ : ∃ V : Int, ((PB.tk (PB.num l) 0 n : Nat) : Int) = V := ⟨_, rfl⟩
  obtain ⟨X0, hX0⟩ : ∃ V : Int, ((PB.tk (PB.num l) 0 m : Nat) : Int) = V := ⟨_, rfl⟩
  obtain ⟨Y, hY⟩ : ∃ V : Int, ((PB.tk (PB.num l) n m : Nat) : Int) = V := ⟨_, rfl⟩
  have hor := parts_or (PB.num l) n m hnm V X Y hV hX hY
  obtain ⟨Z, hZ⟩ : ∃ V : Int, ((8 * l.length - (n + m) : Nat) : Int) = V := ⟨_, rfl⟩
  have HV := Aside.mk hV; have HX := Aside.mk hX; have HX0 := Aside.mk hX0; have HY := Aside.mk hY; have HZ := Aside.mk hZ
  clear hV hX hX0 hY hZ
  go_enter Try.func11, Try.ntmps11
  go_wp2_with (first
    | (go_at_call 28; with_reducible refine (bits_NewReader_at w A c l w.heap.size HBK.out HL.out hc (by omega) hnil).mono ?_; rintro e w1 ⟨g1, rfl, HR1, HB1, HG1⟩)
    | (go_at_call 28; with_reducible refine (bits_NewReader_at w1 A c l w.heap.size HBK.out (HL.out.below HB1.out) hc (by omega) hnil).mono ?_; rintro e w2 ⟨g2, rfl, HR2, HB2, HG2⟩; have HR12 := Aside.mk (HR1.out.below HB2.out); have HNE := Aside.mk (show g1 = g2 → False from (by intro e; have h1 := HR1.out.lt; have h2 := HG2.out; omega)); have HGE := Aside.mk (show w.heap.size ≤ g2 from Nat.le_trans HB1.out.size HG2.out))
    | (go_at_call 29; with_reducible refine (bits_yes w2 w.heap.size g1 l 0 HR12.out ((n : Int) + (m : Int)) (n + m) (by omega) hnm (by omega) V HV.out (n + m) (by omega)).mono ?_; rintro e w3 ⟨rfl, HR3, HO3⟩; have HR23 := Aside.mk (HR2.out.only HO3.out (fun e => HNE.out e.symm) (fun k e => by have := HG1.out; omega)))
    | (go_at_call 29; with_reducible refine (bits_yes w3 w.heap.size g2 l 0 HR23.out (n : Int) n rfl (by omega) (by omega) X HX.out n (by omega)).mono ?_; rintro e w4 ⟨rfl, HR4, HO4⟩)
    | (go_at_call 29; with_reducible refine (bits_yes w4 w.heap.size g2 l n HR4.out (m : Int) m rfl (by omega) (by omega) Y HY.out (n + m) rfl).mono ?_; rintro e w5 ⟨rfl, HR5, HO5⟩; have HR15 := Aside.mk ((HR3.out.only HO4.out (fun e => HNE.out e) (fun k e => by have := HGE.out; omega)).only HO5.out (fun e => HNE.out e) (fun k e => by have := HGE.out; omega)))
    | (go_at_call 26; with_reducible refine (law01_alive w5).mono ?_; rintro e w6 ⟨rfl, hb6⟩; have HB6 := Aside.mk hb6)
    | (go_at_call 30; with_reducible refine (bits_left w6 w.heap.size g1 l (n + m) (HR15.out.below HB6.out) Z HZ.out).mono ?_; rintro e w' ⟨rfl, m1, rfl⟩)
    | (go_at_call 30; with_reducible refine (bits_left (w6.drewN m1) w.heap.size g2 l (n + m) ((HR5.out.below HB6.out).drewN m1) Z HZ.out).mono ?_; rintro e w' ⟨rfl, m2, rfl⟩))
  go_ret
  have b5 : Below w.heap.size w w5 := by
    have e1 := HB1.out.size; have e2 := HB2.out.size; have e3 := HO3.out.size; have e4 := HO4.out.size
    have g1e := HG1.out; have g2e := HGE.out
    exact ((((HB1.out.trans (HB2.out.mono e1)).trans (HO3.out.below w.heap.size (by omega) (fun i e => by omega))).trans (HO4.out.below w.heap.size (by omega) (fun i e => by omega))).trans (HO5.out.below w.heap.size (by omega) (fun i e => by omega)))
  have b6 : Below w.heap.size w w6 := b5.trans (HB6.out.mono b5.size)
  exact ⟨rfl, pw_below_drewN b6 (m1 + m2)⟩
set_option maxHeartbeats 1000000 in
set_option maxRecDepth 100000 in
theorem parts_two (w : World) (A : Option Addr) (c : Nat) (l : List UInt8) (hl : Bytes w A l) (hc : l.length ≤ c) (hs : l.length ≤ 140737488351232) (hnil : A = none → c = 0) (n m : Nat) (hnm : n + m ≤ 24) (hle : 8 * l.length < n + m) (hle2 : n ≤ 8 * l.length) :
    Calls Try.prog 11 #[.slice A l.length c, .int .i64 (n : Int), .int .i64 (m : Int)] w fun e w' => e = .returned (.bool true) ∧ Below w.heap.size w w' := by
  have HBK := Aside.mk hl.lt
  have HL := Aside.mk hl; clear hl
  have t1 : decide ((n : Int) < 0) = false := decide_eq_false (by omega)
  have t2 : decide ((m : Int) < 0) = false := decide_eq_false (by omega)
  have t3 : decide (24 < (n : Int)) = false := decide_eq_false (by omega)
  have t3' : decide (24 < n) = false := decide_eq_false (by omega)
  have t4 : decide (24 - (n : Int) < (m : Int)) = false := decide_eq_false (by omega)
  obtain ⟨V, hV⟩ : ∃ V : Int, ((PB.tk (PB.num l) 0 (n + m) : Nat) : Int) = V := ⟨_, rfl⟩
  obtain ⟨X, hX⟩ : ∃ V : Int, ((PB.tk (PB.num l) 0 n : Nat) : Int) = V := ⟨_, rfl⟩
  obtain ⟨X0, hX0⟩ : ∃ V : Int, ((PB.tk (PB.num l) 0 m : Nat) : Int) = V := ⟨_, rfl⟩
  obtain ⟨Y, hY⟩ : ∃ V : Int, ((PB.tk (PB.num l) n m : Nat) : Int) = V := ⟨_, rfl⟩
  have hor := parts_or (PB.num l) n m hnm V X Y hV hX hY
  obtain ⟨Z, hZ⟩ : ∃ V : Int, ((8 * l.length - (n + m) : Nat) : Int) = V := ⟨_, rfl⟩
  have HV := Aside.mk hV; have HX := Aside.mk hX; have HX0 := Aside.mk hX0; have HY := Aside.mk hY; have HZ := Aside.mk hZ
  clear hV hX hX0 hY hZ
  go_enter Try.func11, Try.ntmps11
  go_wp2_with (first
    | (go_at_call 28; with_reducible refine (bits_NewReader_at w A c l w.heap.size HBK.out HL.out hc (by omega) hnil).mono ?_; rintro e w1 ⟨g1, rfl, HR1, HB1, HG1⟩)
    | (go_at_call 28; with_reducible refine (bits_NewReader_at w1 A c l w.heap.size HBK.out (HL.out.below HB1.out) hc (by omega) hnil).mono ?_; rintro e w2 ⟨g2, rfl, HR2, HB2, HG2⟩; have HR12 := Aside.mk (HR1.out.below HB2.out); have HNE := Aside.mk (show g1 = g2 → False from (by intro e; have h1 := HR1.out.lt; have h2 := HG2.out; omega)); have HGE := Aside.mk (show w.heap.size ≤ g2 from Nat.le_trans HB1.out.size HG2.out))
    | (go_at_call 29; with_reducible refine (bits_no w2 w.heap.size g1 l 0 HR12.out ((n : Int) + (m : Int)) (by omega)).mono ?_; rintro e w3 ⟨rfl, HR3, HO3⟩; have HR23 := Aside.mk (HR2.out.only HO3.out (fun e => HNE.out e.symm) (fun k e => by have := HG1.out; omega)))
    | (go_at_call 29; with_reducible refine (bits_yes w3 w.heap.size g2 l 0 HR23.out (n : Int) n rfl (by omega) (by omega) X HX.out n (by omega)).mono ?_; rintro e w4 ⟨rfl, HR4, HO4⟩)
    | (go_at_call 29; with_reducible refine (bits_no w4 w.heap.size g2 l n HR4.out (m : Int) (by omega)).mono ?_; rintro e w5 ⟨rfl, HR5, HO5⟩; have HR15 := Aside.mk ((HR3.out.only HO4.out (fun e => HNE.out e) (fun k e => by have := HGE.out; omega)).only HO5.out (fun e => HNE.out e) (fun k e => by have := HGE.out; omega)))
    | (go_at_call 26; with_reducible refine (law01_alive w5).mono ?_; rintro e w6 ⟨rfl, hb6⟩; have HB6 := Aside.mk hb6))
  go_ret
  have b5 : Below w.heap.size w w5 := by
    have e1 := HB1.out.size; have e2 := HB2.out.size; have e3 := HO3.out.size; have e4 := HO4.out.size
    have g1e := HG1.out; have g2e := HGE.out
    exact ((((HB1.out.trans (HB2.out.mono e1)).trans (HO3.out.below w.heap.size (by omega) (fun i e => by omega))).trans (HO4.out.below w.heap.size (by omega) (fun i e => by omega))).trans (HO5.out.below w.heap.size (by omega) (fun i e => by omega)))
  have b6 : Below w.heap.size w w6 := b5.trans (HB6.out.mono b5.size)
  exact ⟨rfl, b6⟩
set_option maxHeartbeats 1000000 in
set_option maxRecDepth 100000 in
theorem parts_three (w : World) (A : Option Addr) (c : Nat) (l : List UInt8) (hl : Bytes w A l) (hc : l.length ≤ c) (hs : l.length ≤ 140737488351232) (hnil : A = none → c = 0) (n m : Nat) (hnm : n + m ≤ 24) (hle : 8 * l.length < n + m) (hle2 : 8 * l.length < n) (hle3 : m ≤ 8 * l.length) :
    Calls Try.prog 11 #[.slice A l.length c, .int .i64 (n : Int), .int .i64 (m : Int)] w fun e w' => e = .returned (.bool true) ∧ Below w.heap.size w w' := by
  have HBK := Aside.mk hl.lt
  have HL := Aside.mk hl; clear hl
  have t1 : decide ((n : Int) < 0) = false := decide_eq_false (by omega)
  have t2 : decide ((m : Int) < 0) = false := decide_eq_false (by omega)
  have t3 : decide (24 < (n : Int)) = false := decide_eq_false (by omega)
  have t3' : decide (24 < n) = false := decide_eq_false (by omega)
  have t4 : decide (24 - (n : Int) < (m : Int)) = false := decide_eq_false (by omega)
  obtain ⟨V, hV⟩ : ∃ V : Int, ((PB.tk (PB.num l) 0 (n + m) : Nat) : Int) = V := ⟨_, rfl⟩
  obtain ⟨X, hX⟩ : ∃ V : Int, ((PB.tk (PB.num l) 0 n : Nat) : Int) = V := ⟨_, rfl⟩
  obtain ⟨X0, hX0⟩ : ∃ V : Int, ((PB.tk (PB.num l) 0 m : Nat) : Int) = V := ⟨_, rfl⟩
  obtain ⟨Y, hY⟩ : ∃ V : Int, ((PB.tk (PB.num l) n m : Nat) : Int) = V := ⟨_, rfl⟩
  have hor := parts_or (PB.num l) n m hnm V X Y hV hX hY
  obtain ⟨Z, hZ⟩ : ∃ V : Int, ((8 * l.length - (n + m) : Nat) : Int) = V := ⟨_, rfl⟩
  have HV := Aside.mk hV; have HX := Aside.mk hX; have HX0 := Aside.mk hX0; have HY := Aside.mk hY; have HZ := Aside.mk hZ
  clear hV hX hX0 hY hZ
  go_enter Try.func11, Try.ntmps11
  go_wp2_with (first
    | (go_at_call 28; with_reducible refine (bits_NewReader_at w A c l w.heap.size HBK.out HL.out hc (by omega) hnil).mono ?_; rintro e w1 ⟨g1, rfl, HR1, HB1, HG1⟩)
    | (go_at_call 28; with_reducible refine (bits_NewReader_at w1 A c l w.heap.size HBK.out (HL.out.below HB1.out) hc (by omega) hnil).mono ?_; rintro e w2 ⟨g2, rfl, HR2, HB2, HG2⟩; have HR12 := Aside.mk (HR1.out.below HB2.out); have HNE := Aside.mk (show g1 = g2 → False from (by intro e; have h1 := HR1.out.lt; have h2 := HG2.out; omega)); have HGE := Aside.mk (show w.heap.size ≤ g2 from Nat.le_trans HB1.out.size HG2.out))
    | (go_at_call 29; with_reducible refine (bits_no w2 w.heap.size g1 l 0 HR12.out ((n : Int) + (m : Int)) (by omega)).mono ?_; rintro e w3 ⟨rfl, HR3, HO3⟩; have HR23 := Aside.mk (HR2.out.only HO3.out (fun e => HNE.out e.symm) (fun k e => by have := HG1.out; omega)))
    | (go_at_call 29; with_reducible refine (bits_no w3 w.heap.size g2 l 0 HR23.out (n : Int) (by omega)).mono ?_; rintro e w4 ⟨rfl, HR4, HO4⟩)
    | (go_at_call 29; with_reducible refine (bits_yes w4 w.heap.size g2 l 0 HR4.out (m : Int) m rfl (by omega) (by omega) X0 HX0.out m (by omega)).mono ?_; rintro e w5 ⟨rfl, HR5, HO5⟩; have HR15 := Aside.mk ((HR3.out.only HO4.out (fun e => HNE.out e) (fun k e => by have := HGE.out; omega)).only HO5.out (fun e => HNE.out e) (fun k e => by have := HGE.out; omega)))
    | (go_at_call 26; with_reducible refine (law01_alive w5).mono ?_; rintro e w6 ⟨rfl, hb6⟩; have HB6 := Aside.mk hb6))
  go_ret
  have b5 : Below w.heap.size w w5 := by
    have e1 := HB1.out.size; have e2 := HB2.out.size; have e3 := HO3.out.size; have e4 := HO4.out.size
    have g1e := HG1.out; have g2e := HGE.out
    exact ((((HB1.out.trans (HB2.out.mono e1)).trans (HO3.out.below w.heap.size (by omega) (fun i e => by omega))).trans (HO4.out.below w.heap.size (by omega) (fun i e => by omega))).trans (HO5.out.below w.heap.size (by omega) (fun i e => by omega)))
  have b6 : Below w.heap.size w w6 := b5.trans (HB6.out.mono b5.size)
  exact ⟨rfl, b6⟩
set_option maxHeartbeats 1000000 in
set_option maxRecDepth 100000 in
theorem parts_four (w : World) (A : Option Addr) (c : Nat) (l : List UInt8) (hl : Bytes w A l) (hc : l.length ≤ c) (hs : l.length ≤ 140737488351232) (hnil : A = none → c = 0) (n m : Nat) (hnm : n + m ≤ 24) (hle : 8 * l.length < n + m) (hle2 : 8 * l.length < n) (hle3 : 8 * l.length < m) :
    Calls Try.prog 11 #[.slice A l.length c, .int .i64 (n : Int), .int .i64 (m : Int)] w fun e w' => e = .returned (.bool true) ∧ Below w.heap.size w w' := by
  have HBK := Aside.mk hl.lt
  have HL := Aside.mk hl; clear hl
  have t1 : decide ((n : Int) < 0) = false := decide_eq_false (by omega)
  have t2 : decide ((m : Int) < 0) = false := decide_eq_false (by omega)
  have t3 : decide (24 < (n : Int)) = false := decide_eq_false (by omega)
  have t3' : decide (24 < n) = false := decide_eq_false (by omega)
  have t4 : decide (24 - (n : Int) < (m : Int)) = false := decide_eq_false (by omega)
  obtain ⟨V, hV⟩ : ∃ V : Int, ((PB.tk (PB.num l) 0 (n + m) : Nat) : Int) = V := ⟨_, rfl⟩
  obtain ⟨X, hX⟩ : ∃ V : Int, ((PB.tk (PB.num l) 0 n : Nat) : Int) = V := ⟨_, rfl⟩
  obtain ⟨X0, hX0⟩ : ∃ V : Int, ((PB.tk (PB.num l) 0 m : Nat) : Int) = V := ⟨_, rfl⟩
  obtain ⟨Y, hY⟩ : ∃ V : Int, ((PB.tk (PB.num l) n m : Nat) : Int) = V := ⟨_, rfl⟩
  have hor := parts_or (PB.num l) n m hnm V X Y hV hX hY
  obtain ⟨Z, hZ⟩ : ∃ V : Int, ((8 * l.length - (n + m) : Nat) : Int) = V := ⟨_, rfl⟩
  have HV := Aside.mk hV; have HX := Aside.mk hX; have HX0 := Aside.mk hX0; have HY := Aside.mk hY; have HZ := Aside.mk hZ
  clear hV hX hX0 hY hZ
  go_enter Try.func11, Try.ntmps11
  go_wp2_with (first
    | (go_at_call 28; with_reducible refine (bits_NewReader_at w A c l w.heap.size HBK.out HL.out hc (by omega) hnil).mono ?_; rintro e w1 ⟨g1, rfl, HR1, HB1, HG1⟩)
    | (go_at_call 28; with_reducible refine (bits_NewReader_at w1 A c l w.heap.size HBK.out (HL.out.below HB1.out) hc (by omega) hnil).mono ?_; rintro e w2 ⟨g2, rfl, HR2, HB2, HG2⟩; have HR12 := Aside.mk (HR1.out.below HB2.out); have HNE := Aside.mk (show g1 = g2 → False from (by intro e; have h1 := HR1.out.lt; have h2 := HG2.out; omega)); have HGE := Aside.mk (show w.heap.size ≤ g2 from Nat.le_trans HB1.out.size HG2.out))
    | (go_at_call 29; with_reducible refine (bits_no w2 w.heap.size g1 l 0 HR12.out ((n : Int) + (m : Int)) (by omega)).mono ?_; rintro e w3 ⟨rfl, HR3, HO3⟩; have HR23 := Aside.mk (HR2.out.only HO3.out (fun e => HNE.out e.symm) (fun k e => by have := HG1.out; omega)))
    | (go_at_call 29; with_reducible refine (bits_no w3 w.heap.size g2 l 0 HR23.out (n : Int) (by omega)).mono ?_; rintro e w4 ⟨rfl, HR4, HO4⟩)
    | (go_at_call 29; with_reducible refine (bits_no w4 w.heap.size g2 l 0 HR4.out (m : Int) (by omega)).mono ?_; rintro e w5 ⟨rfl, HR5, HO5⟩; have HR15 := Aside.mk ((HR3.out.only HO4.out (fun e => HNE.out e) (fun k e => by have := HGE.out; omega)).only HO5.out (fun e => HNE.out e) (fun k e => by have := HGE.out; omega)))
    | (go_at_call 26; with_reducible refine (law01_alive w5).mono ?_; rintro e w6 ⟨rfl, hb6⟩; have HB6 := Aside.mk hb6))
  go_ret
  have b5 : Below w.heap.size w w5 := by
    have e1 := HB1.out.size; have e2 := HB2.out.size; have e3 := HO3.out.size; have e4 := HO4.out.size
    have g1e := HG1.out; have g2e := HGE.out
    exact ((((HB1.out.trans (HB2.out.mono e1)).trans (HO3.out.below w.heap.size (by omega) (fun i e => by omega))).trans (HO4.out.below w.heap.size (by omega) (fun i e => by omega))).trans (HO5.out.below w.heap.size (by omega) (fun i e => by omega)))
  have b6 : Below w.heap.size w w6 := b5.trans (HB6.out.mono b5.size)
  exact ⟨rfl, b6⟩

theorem bitsParts_walk (w : World) (A : Option Addr) (c : Nat) (l : List UInt8) (hl : Bytes w A l) (hc : l.length ≤ c) (hs : l.length ≤ 140737488351232) (hnil : A = none → c = 0) (nn : Int) (hn1 : -9223372036854775808 ≤ nn) (hn2 : nn ≤ 9223372036854775807) (mm : Int) (hm1 : -9223372036854775808 ≤ mm) (hm2 : mm ≤ 9223372036854775807) :
    Calls Try.prog 11 #[.slice A l.length c, .int .i64 nn, .int .i64 mm] w fun e w' => e = .returned (.bool true) ∧ Below w.heap.size w w' := by
  by_cases h1 : nn < 0
  · exact parts_early1 w A c l hl hc hs hnil nn mm (decide_eq_true h1)
  by_cases h2 : mm < 0
  · exact parts_early2 w A c l hl hc hs hnil nn mm (decide_eq_false h1) (decide_eq_true h2)
  by_cases h3 : 24 < nn
  · exact parts_early3 w A c l hl hc hs hnil nn mm (decide_eq_false h1) (decide_eq_false h2) (decide_eq_true h3)
  by_cases h4 : 24 - nn < mm
  · exact parts_early4 w A c l hl hc hs hnil nn mm (decide_eq_false h1) (decide_eq_false h2) (decide_eq_false h3) (by omega) (by omega) (decide_eq_true h4)
  obtain ⟨n, rfl⟩ := Int.eq_ofNat_of_zero_le (show 0 ≤ nn by omega)
  obtain ⟨m, rfl⟩ := Int.eq_ofNat_of_zero_le (show 0 ≤ mm by omega)
  by_cases g1 : n + m ≤ 8 * l.length
  · exact parts_one w A c l hl hc hs hnil n m (by omega) g1
  by_cases g2 : n ≤ 8 * l.length
  · exact parts_two w A c l hl hc hs hnil n m (by omega) (by omega) g2
  by_cases g3 : m ≤ 8 * l.length
  · exact parts_three w A c l hl hc hs hnil n m (by omega) (by omega) (by omega) g3
  · exact parts_four w A c l hl hc hs hnil n m (by omega) (by omega) (by omega) (by omega)

end Go.Proofs.Ytdiapljnhlonlaa
