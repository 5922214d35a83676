/- match.Find: what it makes, as a plain function, and its contract. -/
import Derived.Test.YtohkjiellcikhaaFinderC
namespace Go.Proofs.Ytohkjiellcikhaa.P07
open Go.RowKit Go.Proofs.YtohkjiellcikhaaW.PrintWords Go.Proofs.YtohkjiellcikhaaW.PrintLast Go.Proofs.YtohkjiellcikhaaW.PrintMore Go.Proofs.Ytohkjiellcikhaa MF
set_option linter.unusedVariables false
set_option linter.unusedSimpArgs false

def toS (t : Tok) : S32 := ⟨(t.b : Int), (t.long : Int), (t.back : Int)⟩
def okB (l : List Int) : Bool := l.all fun x => decide (0 ≤ x) && decide (x < 256)
theorem okB_all {l : List Int} (h : okB l = true) : AllB l := fun i hi => by
  unfold okB at h
  rw [List.all_eq_true] at h
  have := h (l.getD i 0) (by rw [List.getD_eq_getElem?_getD, List.getElem?_eq_getElem hi]; exact List.getElem_mem hi)
  simpa using this
/-- The law's words for Find: refused where a byte is none, or there are too many for a row of tokens. -/
def match_Find.f (l0 : List Int) (a1 : Int) : Option (List S32) := if okB l0 && decide (l0.length ≤ 5000000000000) then some ((MF.find l0 a1).map toS) else none

theorem tries_eq (level : Int) : ∃ mm : Nat, 1 ≤ mm ∧ mm ≤ 6 ∧ (if 6 < (if level < 1 then 1 else level) then 6 else (if level < 1 then 1 else level)) = (mm : Int) ∧ tries level = 8 * 2 ^ mm := by
  by_cases h1 : level < 1
  · exact ⟨1, by omega, by omega, by rw [if_pos h1]; rfl, by unfold tries; rw [show (min (max level 1) 6).toNat = 1 by omega]⟩
  · by_cases h6 : 6 < level
    · exact ⟨6, by omega, by omega, by rw [if_neg h1, if_pos h6]; rfl, by unfold tries; rw [show (min (max level 1) 6).toNat = 6 by omega]⟩
    · exact ⟨level.toNat, by omega, by omega, by rw [if_neg h1, if_neg h6]; omega, by unfold tries; rw [show (min (max level 1) 6).toNat = level.toNat by omega]⟩
theorem tries_le (level : Int) : tries level ≤ 512 := by
  obtain ⟨mm, h1, h2, _, h4⟩ := tries_eq level
  rw [h4]
  have : 2 ^ mm ≤ 2 ^ 6 := Nat.pow_le_pow_right (by decide) h2
  omega
theorem IsFinder.start {w0 w : World} {A : Option Addr} {c : Nat} {l : List Int} {T : Nat} {cs : Array Value} (hb : Below w0.heap.size w0 w) (hl : l.length ≤ 140737488355328) (h1 : cs.size = 8195) (h2 : cs[0]? = some (.slice A l.length c)) (h3 : ∀ i, i < 8192 → cs[1 + i]? = some (.int .i64 0))
    (h4 : cs[8193]? = some (.slice (some ⟨w.heap.size, 0, none⟩) l.length l.length)) (h5 : cs[8194]? = some (.int .i64 (T : Int))) :
    IsFinder w0 ((w.alloc (.cells (madeCells #[.int .i64 0] l.length) 3)).alloc (.cells cs 46)) (w.heap.size + 1) w.heap.size A c l.length l T St.new := by
  have e : w.heap.size + 1 = (w.alloc (.cells (madeCells #[.int .i64 0] l.length) 3)).heap.size := by simp
  refine ⟨⟨cs, ?_, h1, h2, fun i hi => by rw [h3 i hi]; rfl, h4, h5⟩, ?_, by have := hb.size; omega⟩
  · rw [e]; exact heap_alloc_new _ _
  · refine Kd.R_alloc ?_ _
    have ho := own_made w w0.heap.size 3 .i64 l.length hb.size (by omega)
    have hr : rowI l.length St.new.ahead = List.replicate l.length 0 := by
      apply List.ext_getElem
      · simp [rowI]
      · intro i h1 h2; simp [rowI, St.new]
    rw [hr]
    exact Kd.R_of_own (enc := Value.int .i64) (by rw [List.length_replicate]; exact ho) (fun _ _ => trivial)

theorem find_alone {l : List Int} {lev : Int} {T f a : Nat} {st : St} {toks : List Tok} {n b : Nat} (h : a < l.length) (hp : MF.step l lev T st a = (n, b)) (hn : n = 0) : findL l lev T (f + 1) a st toks = findL l lev T f (a + 1) (note l st a) (toks ++ [⟨byt l a, 0, 0⟩]) := by
  rw [findL, if_neg (by omega), hp, if_pos hn]
theorem find_run {l : List Int} {lev : Int} {T f a : Nat} {st : St} {toks : List Tok} {n b : Nat} (h : a < l.length) (hp : MF.step l lev T st a = (n, b)) (hn : ¬ n = 0) : findL l lev T (f + 1) a st toks = findL l lev T f (a + n) (noteAll l st a n) (toks ++ [⟨0, n, b⟩]) := by
  rw [findL, if_neg (by omega), hp, if_neg hn]
theorem find_end {l : List Int} {lev : Int} {T f a : Nat} {st : St} {toks : List Tok} (h : l.length ≤ a) : findL l lev T f a st toks = toks := by
  cases f with
  | zero => rfl
  | succ f => rw [findL, if_pos h]
theorem IsFinder.app {w0 w w1 : World} {g ga : Nat} {A : Option Addr} {c cap : Nat} {l : List Int} {T : Nat} {s : St} (h : IsFinder w0 w g ga A c cap l T s) {row : Option Nat} (hg : w.grownBy w1 row) (hr : ∀ k, row = some k → k ≠ g ∧ k ≠ ga) : IsFinder w0 w1 g ga A c cap l T s := by
  have hl := h.lt
  exact h.kept (hg.block g hl.1 (fun e => (hr g e.symm).1 rfl)) (hg.block ga hl.2.1 (fun e => (hr ga e.symm).2 rfl))
theorem note_full (w wr : World) (g ga : Nat) (A : Option Addr) (c : Nat) (l : List Int) (T : Nat) (st : St) (a : Nat) (v : Value) (ts : List S32) (hF : IsFinder w wr g ga A c l.length l T st) (hR : Kd.R k32 32 wr w.heap.size (fun k => k ≠ g ∧ k ≠ ga) v ts) (hb : Below w.heap.size w wr)
    (hr : Kd.C (Kd.int .u8) w A l.length l) (hc : l.length ≤ c) (hB : AllB l) (hl : l.length ≤ 140737488355328) (x : Int) (hx : x = (a : Int)) (ha : a < l.length) (hs : st.Inv a) :
    Calls Try.prog 23 #[.pointer (some ⟨g, 0, none⟩), .int .i64 x] wr fun e w' => e = .returned (.tuple #[]) ∧ Aside (IsFinder w w' g ga A c l.length l T (note l st a)) ∧ Aside (Kd.R k32 32 w' w.heap.size (fun k => k ≠ g ∧ k ≠ ga) v ts) ∧ Aside (Below w.heap.size w w') ∧ Aside (∀ k, w'.heap.size ≤ k → k ≠ g ∧ k ≠ ga) := by
  subst hx
  refine (finder_note w wr g ga A c l.length l T st hF (Kd.C_below hr hb) hc hB hl a ha hs).mono ?_
  rintro e w' ⟨h1, ⟨h2⟩, ⟨h3⟩, ⟨h4⟩⟩
  have hlt := h2.lt
  refine ⟨h1, ⟨h2⟩, ⟨Kd.R_step hR (fun k hk hkl => h3.block k hkl (fun h => h.elim (fun e => hk.1 e) (fun e => hk.2 e)))⟩, ⟨hb.trans (h3.below w.heap.size hb.size (by rintro i (rfl | rfl) <;> omega))⟩, ⟨fun k hk => by omega⟩⟩

set_option maxHeartbeats 4000000 in
set_option maxRecDepth 100000 in
theorem find_walk (A : Option Addr) (c : Nat) (l : List Int) (lev : Int) (w : World) (hr : Kd.C (Kd.int .u8) w A l.length l) (hc : l.length ≤ c) (hB : AllB l) (hlim : l.length ≤ 5000000000000) (T : Nat) (hT : tries lev = T) :
    Calls Try.prog 16 #[.slice A l.length c, .int .i64 lev] w fun e w' => ∃ v0_ : Value, e = .returned (v0_) ∧ Kd.R k32 32 w' w.heap.size (fun _ => True) v0_ ((MF.find l lev).map toS) ∧ Below w.heap.size w w' := by
  have HR := Aside.mk hr; clear hr
  have hTl := tries_le lev
  rw [hT] at hTl
  obtain ⟨mm, hm1, hm6, hmm, hTe⟩ := tries_eq lev
  rw [hT] at hTe
  obtain ⟨M, hM⟩ : ∃ M : Int, (if lev < 1 then 1 else lev) = M := ⟨_, rfl⟩
  rw [hM] at hmm
  have hmx : ∀ (W : World) ats ty, (Builtin.max_ ats ty #[.int .i64 lev, .int .i64 1]).run Try.prog W = .ok (.int .i64 M) W := fun W ats ty => by rw [max_two, max2_int, hM]; rfl
  have hmn : ∀ (W : World) ats ty, (Builtin.min_ ats ty #[.int .i64 M, .int .i64 6]).run Try.prog W = .ok (.int .i64 (mm : Int)) W := fun W ats ty => by rw [min_two, min2_int, hmm]; rfl
  have hmk := print_make (P := Try.prog) 43 3 .i64 8 Try.underlying43 (show (Try.prog.info? 3).map (fun i => (i.zero, i.size, i.bytes)) = some (some (.int .i64 0), 1, 8) by kernel_rfl) (by decide) l.length (by omega)
  obtain ⟨Z, hZ, hzero⟩ := zero_run
  have hZs := chkZ_size hZ
  have hZ0 : ¬ Z = #[] := by intro e; rw [e] at hZs; exact absurd hZs (by decide)
  have hZ1 : ¬ Z.size < 8194 := by omega
  have hZ2 : ¬ Z.size < 8195 := by omega
  obtain ⟨cs, hcse⟩ : ∃ cs, ((Z.setIfInBounds 0 (.slice A l.length c)).setIfInBounds 8193 (.slice (some ⟨w.heap.size, 0, none⟩) l.length l.length)).setIfInBounds 8194 (.int .i64 (IntKind.i64.wrap (8 * 2 ^ mm))) = cs := ⟨_, rfl⟩
  obtain ⟨hcs1, hcs2, hcs3, hcs4, hcs5⟩ := cells_are Z hZ _ _ _ _ hcse
  have hTw : IntKind.i64.wrap (8 * 2 ^ mm) = (T : Int) := by
    have e : (8 : Int) * 2 ^ mm = (T : Int) := by rw [hTe]; rw [Int.natCast_mul, Int.natCast_pow]; rfl
    rw [e]; exact wrap_nat T (by omega)
  rw [hTw] at hcs5
  have HST := Aside.mk (IsFinder.start (w0 := w) (w := w) (A := A) (c := c) (l := l) (T := T) (cs := cs) (Below.refl _ w) (by omega) hcs1 hcs2 hcs3 hcs4 hcs5)
  have HBS := Aside.mk (((Below.refl w.heap.size w).alloc (Nat.le_refl _) (.cells (madeCells #[.int .i64 0] l.length) 3)).alloc (by simp) (.cells cs 46))
  have HTT := Aside.mk hT
  have HCS := Aside.mk hcse
  clear hcs1 hcs2 hcs3 hcs4 hcs5 hTe hM hmm hT hTw hcse hZ
  go_enter Try.func16, Try.ntmps16
  go_wp2_with fail
  refine start_ (n := 11) (S := fun w' => True) (ds := []) #[false, false, false, false, false, false, false, false, false, false, false] (by kernel_rfl) rfl rfl (trivial) (fun hHeld => ?_)
  refine pure_ (i := 0) (N := (some 11)) (v := ?_) (a' := ?_) #[true, false, false, false, false, false, false, false, false, false, false] rfl rfl (by kernel_rfl) (fun _ _ _ h => h) (Or.inl ⟨by rfl, ?_⟩) ?_ ?_
  rotate_left
  · intro w'
    go_simp
    with_reducible rfl
  rotate_left
  · simp only [Act.put, List.setIfInBounds_toArray, List.set_cons_zero, List.set_cons_succ]
    rfl
  refine pure_ (i := 1) (N := (some 12)) (v := ?_) (a' := ?_) #[true, true, false, false, false, false, false, false, false, false, false] rfl rfl (by kernel_rfl) (fun _ _ _ h => h) (Or.inl ⟨by rfl, ?_⟩) ?_ ?_
  rotate_left
  · intro w'
    go_simp
    with_reducible rfl
  rotate_left
  · simp only [Act.put, List.setIfInBounds_toArray, List.set_cons_zero, List.set_cons_succ]
    rfl
  refine pure_ (i := 2) (N := (some 13)) (v := ?_) (a' := ?_) #[true, true, true, false, false, false, false, false, false, false, false] rfl rfl (by kernel_rfl) (fun _ _ _ h => h) (Or.inl ⟨by rfl, ?_⟩) ?_ ?_
  rotate_left
  · intro w'
    go_simp
    with_reducible rfl
  rotate_left
  · simp only [Act.put, List.setIfInBounds_toArray, List.set_cons_zero, List.set_cons_succ]
    rfl
  refine pure_ (i := 4) (N := (some 15)) (v := ?_) (a' := ?_) #[true, true, true, false, true, false, false, false, false, false, false] rfl rfl (by kernel_rfl) (fun _ _ _ h => h) (Or.inl ⟨by rfl, ?_⟩) ?_ ?_
  rotate_left
  · intro w'
    go_simp
    with_reducible rfl
  rotate_left
  · simp only [Act.put, List.setIfInBounds_toArray, List.set_cons_zero, List.set_cons_succ]
    rfl
  refine pure_ (i := 5) (N := (some 16)) (v := ?_) (a' := ?_) #[true, true, true, false, true, true, false, false, false, false, false] rfl rfl (by kernel_rfl) (fun _ _ _ h => h) (Or.inl ⟨by rfl, ?_⟩) ?_ ?_
  rotate_left
  · intro w'
    go_simp
    with_reducible rfl
  rotate_left
  · simp only [Act.put, List.setIfInBounds_toArray, List.set_cons_zero, List.set_cons_succ]
    rfl
  refine pure_ (i := 6) (N := (some 17)) (v := ?_) (a' := ?_) #[true, true, true, false, true, true, true, false, false, false, false] rfl rfl (by kernel_rfl) (fun _ _ _ h => h) (Or.inl ⟨by rfl, ?_⟩) ?_ ?_
  rotate_left
  · intro w'
    go_simp
    with_reducible rfl
  rotate_left
  · simp only [Act.put, List.setIfInBounds_toArray, List.set_cons_zero, List.set_cons_succ]
    rfl
  refine pure_ (i := 7) (N := (some 18)) (v := ?_) (a' := ?_) #[true, true, true, false, true, true, true, true, false, false, false] rfl rfl (by kernel_rfl) (fun _ _ _ h => h) (Or.inl ⟨by rfl, ?_⟩) ?_ ?_
  rotate_left
  · intro w'
    go_simp
    with_reducible rfl
  rotate_left
  · simp only [Act.put, List.setIfInBounds_toArray, List.set_cons_zero, List.set_cons_succ]
    rfl
  refine one_ (i := 3) (N := (some 14)) #[true, true, true, true, true, true, true, true, false, false, false] rfl rfl (by kernel_rfl) (by decide) (fun K hK => ?_)
  refine value_ (w1 := ?_) (v := ?_) (by rfl) rfl ?_ ?_
  rotate_left 2
  · go_simp
    constructor
    · rfl
    · rfl
  refine hK.out _ _ (trivial) (fun hHeld => ?_)
  clear hK K
  refine norm_ (a' := ?_) ?_ ?_
  rotate_left
  · show Act.put _ (some 14) _ = _
    simp only [Act.put, List.setIfInBounds_toArray, List.set_cons_zero, List.set_cons_succ]
    rfl
  refine pure_ (i := 8) (N := (some 19)) (v := ?_) (a' := ?_) #[true, true, true, true, true, true, true, true, true, false, false] rfl rfl (by kernel_rfl) (fun _ _ _ h => h) (Or.inl ⟨by rfl, ?_⟩) ?_ ?_
  rotate_left
  · intro w'
    go_simp
    with_reducible rfl
  rotate_left
  · simp only [Act.put, List.setIfInBounds_toArray, List.set_cons_zero, List.set_cons_succ]
    rfl
  refine one_ (i := 9) (N := (some 20)) #[true, true, true, true, true, true, true, true, true, true, false] rfl rfl (by kernel_rfl) (by decide) (fun K hK => ?_)
  refine value_ (w1 := ?_) (v := ?_) (by rfl) rfl ?_ ?_
  rotate_left 2
  · go_simp
    constructor
    · rfl
    · rfl
  refine hK.out _ _ (trivial) (fun hHeld => ?_)
  clear hK K
  refine norm_ (a' := ?_) ?_ ?_
  rotate_left
  · show Act.put _ (some 20) _ = _
    simp only [Act.put, List.setIfInBounds_toArray, List.set_cons_zero, List.set_cons_succ]
    rfl
  refine pure_ (i := 10) (N := (some 6)) (v := ?_) (a' := ?_) #[true, true, true, true, true, true, true, true, true, true, true] rfl rfl (by kernel_rfl) (fun _ _ _ h => h) (Or.inl ⟨by rfl, ?_⟩) ?_ ?_
  rotate_left
  · intro w'
    go_simp
    with_reducible rfl
  rotate_left
  · simp only [Act.put, List.setIfInBounds_toArray, List.set_cons_zero, List.set_cons_succ]
    rfl
  refine done_ (by kernel_rfl) ?_
  have hcse := HCS.out
  rw [hcse]
  clear hcse hzero hZs hZ0 hZ1 hZ2 HCS
  go_wp2_with fail
  generalize hW : ((w.alloc (.cells (madeCells #[.int .i64 0] l.length) 3)).alloc (.cells cs 46)) = W at *
  obtain ⟨g, hg⟩ : ∃ g, w.heap.size + 1 = g := ⟨_, rfl⟩
  obtain ⟨ga, hga⟩ : ∃ ga, w.heap.size = ga := ⟨_, rfl⟩
  rw [hg] at HST ⊢
  have HST' : Aside (IsFinder w W.drew g ga A c l.length l T St.new) := ⟨by rw [← hga]; exact HST.out.drewN 1⟩
  have HBS' : Aside (Below w.heap.size w W.drew) := ⟨HBS.out.drew⟩
  clear HST HBS hg hga hW
  generalize IntKind.i64.wrap (8 * 2 ^ mm) = tw at *
  go_loopw [5, 7] (fun v5 v7 wr => ∃ (f a : Nat) (st : St) (toks : List Tok), v7 = .int .i64 a ∧ Aside (a ≤ l.length) ∧ Aside (st.Inv a) ∧ Aside (findL l lev T f a st toks = MF.find l lev) ∧ Aside (l.length - a < f) ∧ Aside (IsFinder w wr g ga A c l.length l T st) ∧ Aside (Kd.R k32 32 wr w.heap.size (fun k => k ≠ g ∧ k ≠ ga) v5 (toks.map toS)) ∧ Aside (toks.length ≤ a) ∧ Aside (Below w.heap.size w wr)) (fun _ v7 _ => l.length - (intOf v7).toNat)
  case atStart => exact ⟨l.length + 1, 0, St.new, [], rfl, ⟨by omega⟩, ⟨St.new_inv 0⟩, ⟨by unfold MF.find; rw [HTT.out]⟩, ⟨by omega⟩, HST', ⟨Kd.R_nil _ _ _ _ _⟩, ⟨by simp⟩, HBS'⟩
  case round =>
    clear HST' HBS'
    obtain ⟨f, a, st, toks, rfl, HAL, HINV, HFL, HFU, HF, HRT, HTL, HB⟩ := hrel
    have hal : a ≤ 5000000000000 := by have := HAL.out; omega
    by_cases hlt : a < l.length
    · have tl : decide ((a : Int) < (l.length : Int)) = true := decide_eq_true (by omega)
      have tl' : decide (a < l.length) = true := decide_eq_true hlt
      obtain ⟨f, rfl⟩ : ∃ f', f = f' + 1 := ⟨f - 1, by have := HFU.out; omega⟩
      obtain ⟨p, hp⟩ : ∃ p, MF.step l lev T st a = p := ⟨_, rfl⟩
      obtain ⟨n, b⟩ := p
      have HFA := Aside.mk (fun h : n = 0 => find_alone (l := l) (lev := lev) (T := T) (f := f) (a := a) (st := st) (toks := toks) (n := n) (b := b) hlt hp h)
      have HFB := Aside.mk (fun h : ¬ n = 0 => find_run (l := l) (lev := lev) (T := T) (f := f) (a := a) (st := st) (toks := toks) (n := n) (b := b) hlt hp h)
      obtain ⟨ad, e, hx⟩ := (DataAt.of (Kd.C_below HR.out HB.out) hB) a hlt
      subst e
      have hn3 : n ≤ 258 ∧ a + n ≤ l.length := by have := (step_run l lev st T a HINV.out (by omega)).1; rw [hp] at this; exact ⟨this.1, this.2.1⟩
      obtain ⟨hn3, hn4⟩ := hn3
      have HP := Aside.mk hp
      have HDAT := Aside.mk (fun (w1 : World) (hb : Below w.heap.size w w1) => show w1.cell? (ad.add a) = some (.int .u8 (byt l a : Int)) from by
        obtain ⟨ad1, e1, hx1⟩ := (DataAt.of (Kd.C_below HR.out hb) hB) a hlt
        injection e1 with e1
        rw [e1]; exact hx1)
      clear hp
      by_cases hlev : 0 < lev
      · have tv : decide (0 < lev) = true := decide_eq_true hlev
        have HBEST := Aside.mk (show best l st T a = (n, b) from by have := HP.out; unfold MF.step at this; rwa [if_pos hlev] at this)
        by_cases hn : n = 0
        · subst hn
          have HFX := Aside.mk (HFA.out rfl); clear HFA HFB
          go_wp2_with (first | (go_at_call 22; with_reducible refine (finder_best w wr g ga (some ad) c l.length l T st HF.out (Kd.C_below HR.out HB.out) hc hB (by omega) a hlt HINV.out (by omega) 0 b HBEST.out).mono ?_; rintro e w' ⟨rfl, m, rfl⟩) | (go_at_call 23; with_reducible refine (note_full w _ g ga (some ad) c l T st a u5 (toks.map toS) (HF.out.drewN _) (Kd.R_drewN HRT.out _) (pw_below_drewN HB.out _) HR.out hc hB (by omega) _ rfl hlt HINV.out).mono ?_; rintro e w1 ⟨rfl, HF1, HRW, HBW, HFR⟩; have hx1 := HDAT.out w1 HBW.out) | (at_builtin; refine Kd.R_append k32 (w0 := w) w.heap.size rfl (.tmp 38) (.tmp 44) 22 32 (.agg #[(.int .u8 0), (.int .i64 0), (.int .i64 0)]) 24 rfl Try.underlying22 info32 rfl (by decide) (by omega) u5 (toks.map toS) (⟨(byt l a : Int), 0, 0⟩ : S32) [.int .u8 (byt l a : Int), .int .i64 0, .int .i64 0] (fun k => k ≠ g ∧ k ≠ ga) (fun _ => False) rfl rfl ?aP (fun _ hk => hk.elim) ?aF ?aO ?aB ?aS ?aL ?_; (case aP => exact k32_mkM _ _ _ (⟨(byt l a : Int), 0, 0⟩ : S32)); (case aF => exact HFR.out); (case aO => exact HRW.out); (case aB => exact HBW.out); (case aS => exact HBW.out.size); (case aL => have := HTL.out; rw [List.length_map]; omega); intro v1 w2 ho hb hg hat; have HO2 := Aside.mk ho; have HB2 := Aside.mk hb; have HG2 := Aside.mk hg; clear ho hb hg hat))
          go_roundw
          case rel => exact ⟨f, a + 1, note l st a, toks ++ [⟨byt l a, 0, 0⟩], by go_num, ⟨by omega⟩, ⟨note_inv HINV.out⟩, ⟨HFX.out.symm.trans HFL.out⟩, ⟨by have := HFU.out; omega⟩, ⟨HF1.out.app HG2.out HRW.out.1⟩, ⟨by rw [List.map_append]; exact HO2.out⟩, ⟨by have := HTL.out; simp; omega⟩, HB2⟩
          case measure => simp [intOf]; omega
        · have tn : ((n : Int) == 0) = false := by rw [beq_eq_false_iff_ne]; omega
          have tn' : (n == 0) = false := by rw [beq_eq_false_iff_ne]; exact hn
          have HFY := Aside.mk (HFB.out hn)
          clear HFA HFB hx
          go_wp2_with (go_at_call 22; with_reducible refine (finder_best w wr g ga (some ad) c l.length l T st HF.out (Kd.C_below HR.out HB.out) hc hB (by omega) a hlt HINV.out (by omega) n b HBEST.out).mono ?_; rintro e w' ⟨rfl, m, rfl⟩)
          have HF2 := Aside.mk (HF.out.drewN m)
          have HRT2 := Aside.mk (Kd.R_drewN HRT.out m)
          have HB2 := Aside.mk (pw_below_drewN HB.out m)
          clear HF HRT HB
          generalize wr.drewN m = wo at *
          go_loopw [10, 49] (fun v10 v49 wi => ∃ k : Nat, v49 = .int .i64 k ∧ k ≤ n ∧ Aside (IsFinder w wi g ga (some ad) c l.length l T (noteAll l st a k)) ∧ Aside (Kd.R k32 32 wi w.heap.size (fun k => k ≠ g ∧ k ≠ ga) u5 (toks.map toS)) ∧ Aside (Below w.heap.size w wi)) (fun _ v49 _ => n - (intOf v49).toNat)
          case atStart => exact ⟨0, rfl, by omega, HF2, HRT2, HB2⟩
          case round =>
            clear HF2 HRT2 HB2
            obtain ⟨k, rfl, hk, HF2, HRW, HBW⟩ := hrel
            by_cases hkn : k < n
            · have tk : decide ((k : Int) < (n : Int)) = true := decide_eq_true (by omega)
              have tk' : decide (k < n) = true := decide_eq_true hkn
              go_wp2_with (go_at_call 23; with_reducible refine (note_full w _ g ga (some ad) c l T (noteAll l st a k) (a + k) u5 (toks.map toS) HF2.out HRW.out HBW.out HR.out hc hB (by omega) ((a : Int) + (k : Int)) (by omega) (by omega) (noteAll_inv HINV.out k)).mono ?_; rintro e w1 ⟨rfl, HF1, HRW1, HBW1, HFR⟩)
              go_roundw
              case rel => exact ⟨k + 1, by go_num, by omega, HF1, HRW1, HBW1⟩
              case measure => simp [intOf]; omega
            · obtain rfl : k = n := by omega
              have tk : decide ((k : Int) < (k : Int)) = false := decide_eq_false (by omega)
              have tk' : decide (k < k) = false := decide_eq_false (by omega)
              have HFR := Aside.mk (show ∀ q, wr.heap.size ≤ q → q ≠ g ∧ q ≠ ga from fun q hq => by have := HF2.out.lt; omega)
              go_wp2_with (at_builtin; refine Kd.R_append k32 (w0 := w) w.heap.size rfl (.tmp 58) (.tmp 62) 22 32 (.agg #[(.int .u8 0), (.int .i64 0), (.int .i64 0)]) 24 rfl Try.underlying22 info32 rfl (by decide) (by omega) u5 (toks.map toS) (⟨0, (k : Int), (b : Int)⟩ : S32) [.int .u8 0, .int .i64 (k : Int), .int .i64 (b : Int)] (fun k => k ≠ g ∧ k ≠ ga) (fun _ => False) rfl rfl ?aP (fun _ hk => hk.elim) ?aF ?aO ?aB ?aS ?aL ?_; (case aP => exact k32_mkM _ _ _ (⟨0, (k : Int), (b : Int)⟩ : S32)); (case aF => exact HFR.out); (case aO => exact HRW.out); (case aB => exact HBW.out); (case aS => exact HBW.out.size); (case aL => have := HTL.out; rw [List.length_map]; omega); intro v1 w2 ho hb hg hat; have HO2 := Aside.mk ho; have HB2 := Aside.mk hb; have HG2 := Aside.mk hg; clear ho hb hg hat)
              go_roundw
              case rel => exact ⟨f, a + k, noteAll l st a k, toks ++ [⟨0, k, b⟩], by go_num, ⟨hn4⟩, ⟨noteAll_inv HINV.out k⟩, ⟨HFY.out.symm.trans HFL.out⟩, ⟨by have := HFU.out; omega⟩, ⟨HF2.out.app HG2.out HRW.out.1⟩, ⟨by rw [List.map_append]; exact HO2.out⟩, ⟨by have := HTL.out; simp; omega⟩, HB2⟩
              case measure => simp [intOf]; omega
      · have tv : decide (0 < lev) = false := decide_eq_false hlev
        have hn : n = 0 := by have := HP.out; unfold MF.step at this; rw [if_neg hlev] at this; exact (congrArg Prod.fst this).symm
        subst hn
        have HFX := Aside.mk (HFA.out rfl); clear HFA HFB
        go_wp2_with (first | (go_at_call 23; with_reducible refine (note_full w _ g ga (some ad) c l T st a u5 (toks.map toS) HF.out HRT.out HB.out HR.out hc hB (by omega) _ rfl hlt HINV.out).mono ?_; rintro e w1 ⟨rfl, HF1, HRW, HBW, HFR⟩; have hx1 := HDAT.out w1 HBW.out) | (at_builtin; refine Kd.R_append k32 (w0 := w) w.heap.size rfl (.tmp 38) (.tmp 44) 22 32 (.agg #[(.int .u8 0), (.int .i64 0), (.int .i64 0)]) 24 rfl Try.underlying22 info32 rfl (by decide) (by omega) u5 (toks.map toS) (⟨(byt l a : Int), 0, 0⟩ : S32) [.int .u8 (byt l a : Int), .int .i64 0, .int .i64 0] (fun k => k ≠ g ∧ k ≠ ga) (fun _ => False) rfl rfl ?aP (fun _ hk => hk.elim) ?aF ?aO ?aB ?aS ?aL ?_; (case aP => exact k32_mkM _ _ _ (⟨(byt l a : Int), 0, 0⟩ : S32)); (case aF => exact HFR.out); (case aO => exact HRW.out); (case aB => exact HBW.out); (case aS => exact HBW.out.size); (case aL => have := HTL.out; rw [List.length_map]; omega); intro v1 w2 ho hb hg hat; have HO2 := Aside.mk ho; have HB2 := Aside.mk hb; have HG2 := Aside.mk hg; clear ho hb hg hat))
        go_roundw
        case rel => exact ⟨f, a + 1, note l st a, toks ++ [⟨byt l a, 0, 0⟩], by go_num, ⟨by omega⟩, ⟨note_inv HINV.out⟩, ⟨HFX.out.symm.trans HFL.out⟩, ⟨by have := HFU.out; omega⟩, ⟨HF1.out.app HG2.out HRW.out.1⟩, ⟨by rw [List.map_append]; exact HO2.out⟩, ⟨by have := HTL.out; simp; omega⟩, HB2⟩
        case measure => simp [intOf]; omega
    · obtain rfl : a = l.length := by have := HAL.out; omega
      have tl : decide ((l.length : Int) < (l.length : Int)) = false := decide_eq_false (by omega)
      have tl' : decide (l.length < l.length) = false := decide_eq_false (by omega)
      go_wp2_with fail
      go_ret
      refine ⟨_, rfl, ?_, HB.out⟩
      have e := HFL.out
      rw [find_end (Nat.le_refl _)] at e
      rw [← e]
      exact Kd.R_mono HRT.out (fun _ _ => trivial)

theorem match_Find.calls (A0 : Option Addr) (c0 : Nat) (l0 : List Int) (a1 : Int) (r : List S32) (w : World) (hr0 : Kd.C (Kd.int .u8) w A0 l0.length l0) (hc0 : l0.length ≤ c0) (h : match_Find.f l0 a1 = some r) :
    Calls Try.prog 16 #[.slice A0 l0.length c0, .int .i64 a1] w fun e w' => ∃ v0_ : Value, e = .returned (v0_) ∧ Kd.R k32 32 w' w.heap.size (fun _ => True) v0_ r ∧ Below w.heap.size w w' := by
  unfold match_Find.f at h
  split at h
  · rename_i hg
    rw [Bool.and_eq_true, decide_eq_true_eq] at hg
    obtain rfl := Option.some.inj h
    exact find_walk A0 c0 l0 a1 w hr0 hc0 (okB_all hg.1) hg.2 _ rfl
  · exact absurd h (by simp)

end Go.Proofs.Ytohkjiellcikhaa.P07
