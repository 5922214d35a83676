/- MatchNears, without Go and memory: no place that is told by a byte alone begins three bytes that begin a little ahead, too. -/
import Derived.Test.YtohkjiellcikhaaP07x16
import Derived.Test.YtohkjiellcikhaaP07x14
import Derived.Test.YtohkjiellcikhaaP07x15
import Derived.Test.YtohkjiellcikhaaMatchR
namespace Go.Proofs.Ytohkjiellcikhaa.Pure
open Go.RowKit Go.Proofs.Ytohkjiellcikhaa.P07 Go.Proofs.YtohkjiellcikhaaW.PrintWords Go.Proofs.YtohkjiellcikhaaW.PrintLast Go.Proofs.Ytohkjiellcikhaa MF

/-- Which places are told by a byte alone. -/
def aloneT (t : Tok) : List Bool := List.replicate (if t.long = 0 then 1 else t.long) (t.long == 0)
def alone (ts : List Tok) : List Bool := ts.flatMap aloneT
theorem alone_append (a b : List Tok) : alone (a ++ b) = alone a ++ alone b := by unfold alone; exact List.flatMap_append ..
def Near (l : List Int) (i : Nat) : Prop := i + 3 ≤ l.length ∧ ∃ q, q < i ∧ i - q ≤ 64 ∧ Three l q i

theorem findL_alone (l : List Int) (lev : Int) (hlev : 0 < lev) (T : Nat) : ∀ (f a : Nat) (st : St) (toks : List Tok), st.Inv a → StAll l st a → StOne l st → a ≤ l.length → l.length - a < f →
    (alone toks).length = a → (∀ i, (alone toks)[i]? = some true → ¬ Near l i) →
    (alone (findL l lev T f a st toks)).length = l.length ∧ ∀ i, (alone (findL l lev T f a st toks))[i]? = some true → ¬ Near l i
  | 0, a, st, toks, _, _, _, _, hf, _, _ => by omega
  | f + 1, a, st, toks, hi, hall, hone, ha, hf, hlen, hno => by
    by_cases hlt : a < l.length
    · obtain ⟨p, hp⟩ : ∃ p, MF.step l lev T st a = p := ⟨_, rfl⟩
      obtain ⟨n, b⟩ := p
      have hbest : best l st T a = (n, b) := by rw [← hp]; unfold MF.step; rw [if_pos hlev]
      have hrun := (step_run l lev st T a hi (by omega)).1
      rw [hp] at hrun
      obtain ⟨r1, r2, _, _⟩ := hrun
      by_cases h0 : n = 0
      · rw [find_alone hlt hp h0]
        refine findL_alone l lev hlev T f (a + 1) _ _ (note_inv hi) (note_all hi hall) (note_one hone) (by omega) (by omega) ?_ ?_
        · rw [alone_append, List.length_append, hlen]; rfl
        · intro i hi2
          rw [alone_append] at hi2
          by_cases e : i < (alone toks).length
          · rw [List.getElem?_append_left e] at hi2
            exact hno i hi2
          · rw [List.getElem?_append_right (by omega)] at hi2
            have hia : i = a := by
              have := (List.getElem?_eq_some_iff.1 hi2).1
              have h1 : (alone [⟨byt l a, 0, 0⟩]).length = 1 := rfl
              omega
            subst hia
            rintro ⟨h3, q, hq1, hq2, hq3⟩
            have := best_finds l i T st hi hall hone q hq1 hq2 h3 hq3
            rw [hbest] at this
            have : 3 ≤ n := this
            omega
      · rw [find_run hlt hp h0]
        have hal : alone [(⟨0, n, b⟩ : Tok)] = List.replicate n false := by
          unfold alone aloneT
          simp [h0]
        refine findL_alone l lev hlev T f (a + n) _ _ (noteAll_inv hi n) (noteAll_all hi hall n) (noteAll_one hone n) (by omega) (by omega) ?_ ?_
        · rw [alone_append, List.length_append, hlen, hal]; simp
        · intro i hi2
          rw [alone_append, hal] at hi2
          by_cases e : i < (alone toks).length
          · rw [List.getElem?_append_left e] at hi2
            exact hno i hi2
          · rw [List.getElem?_append_right (by omega), List.getElem?_replicate] at hi2
            split at hi2 <;> simp at hi2
    · have e : a = l.length := by omega
      subst e
      rw [find_end (Nat.le_refl _)]
      exact ⟨hlen, hno⟩

/-! ### the reference's Alone and Near -/
theorem long_f (t : Tok) : wainloadref07_Long.f (toS t).f0 (toS t).f1 (toS t).f2 = some (((if t.long = 0 then 1 else t.long : Nat) : Int)) := by
  unfold wainloadref07_Long.f toS
  simp only
  by_cases h : t.long = 0
  · rw [if_pos (by omega), if_pos h]; rfl
  · rw [if_neg (by omega), if_neg h]
theorem r_alone_from (ts : List Tok) (hts : ts.length ≤ 100000) (hlong : ∀ t ∈ ts, t.long ≤ 258) : ∀ (d i : Nat) (out : List Bool), ts.length - i = d → i ≤ ts.length → out.length ≤ 258 * i →
    Ev (fun k => wainloadref07_Alone.l0 k (ts.map toS) out (i : Int)) (out ++ alone (ts.drop i)) := by
  have hlen : (ts.map toS).length = ts.length := List.length_map ..
  intro d
  induction d with
  | zero =>
    intro i out hd hi ho
    have : i = ts.length := by omega
    subst this
    refine Ev.step (f := fun _ => some out) (fun k => ?_) (by rw [List.drop_of_length_le (Nat.le_refl _)]; simp [alone]; exact Ev.now _)
    rw [wainloadref07_Alone.l0, if_neg (by omega)]
  | succ d ih =>
    intro i out hd hi ho
    have hlt : i < ts.length := by omega
    have HW := Aside.mk (show wrap64 ((i : Int) + 1) = ((i + 1 : Nat) : Int) from wrap64_in _ (by omega) (by omega))
    have hrd : rd_T32 (ts.map toS) (i : Int) = toS ts[i] := by rw [rd_T_at _ i (by omega)]; simp
    rw [List.drop_eq_getElem_cons hlt]
    have HRD := Aside.mk hrd; clear hrd
    have hll := hlong ts[i] (List.getElem_mem hlt)
    generalize ts[i] = t at *
    have hal : alone (t :: ts.drop (i + 1)) = aloneT t ++ alone (ts.drop (i + 1)) := rfl
    rw [hal]
    clear hal
    obtain ⟨L, hL⟩ : ∃ L, (if t.long = 0 then 1 else t.long) = L := ⟨_, rfl⟩
    have hlf := long_f t
    rw [hL] at hlf
    have hL258 : L ≤ 258 := by subst hL; split <;> omega
    have HLF := Aside.mk hlf; clear hlf
    have hT : aloneT t = List.replicate L (t.long == 0) := by unfold aloneT; rw [hL]
    clear hL
    have HT := Aside.mk hT; clear hT
    have hb : ((toS t).f1 == 0) = (t.long == 0) := by unfold toS; rw [Bool.eq_iff_iff]; simp
    have HBB := Aside.mk hb; clear hb
    refine Ev.step (f := fun k => wainloadref07_Alone.l1 k (ts.map toS) out (i : Int) 0) (fun k => by rw [wainloadref07_Alone.l0, if_pos (by omega)]) ?_
    have inner : ∀ (m c : Nat) (out2 : List Bool), L - c = m → c ≤ L → out2.length ≤ 258 * i + c → Ev (fun k => wainloadref07_Alone.l1 k (ts.map toS) out2 (i : Int) (c : Int)) (out2 ++ (List.replicate m (t.long == 0) ++ alone (ts.drop (i + 1)))) := by
      intro m
      induction m with
      | zero =>
        intro c out2 hm hc ho2
        refine Ev.step (f := fun k => wainloadref07_Alone.l0 k (ts.map toS) out2 ((i + 1 : Nat) : Int)) (fun k => ?_) (by rw [List.replicate_zero, List.nil_append]; exact ih (i + 1) out2 (by omega) (by omega) (by omega))
        rw [wainloadref07_Alone.l1, if_pos (by omega), if_pos (by omega), HRD.out, HLF.out, Option.bind_some, if_neg (by omega), HW.out]
      | succ m ihm =>
        intro c out2 hm hc ho2
        have HW2 := Aside.mk (show wrap64 ((c : Int) + 1) = ((c + 1 : Nat) : Int) from wrap64_in _ (by omega) (by omega))
        have IH2 := ihm (c + 1) (out2 ++ [t.long == 0]) (by omega) (by omega) (by simp; omega)
        rw [List.append_assoc, List.singleton_append] at IH2
        rw [List.replicate_succ, List.cons_append]
        refine Ev.step (fun k => ?_) IH2
        rw [wainloadref07_Alone.l1, if_pos (by omega), if_pos (by omega), HRD.out, HLF.out, Option.bind_some, if_pos (by omega), if_pos (by omega), HBB.out, HW2.out]
    have := inner L 0 out (by omega) (by omega) (by omega)
    rw [HT.out]
    exact this
theorem r_alone (ts : List Tok) (hts : ts.length ≤ 100000) (hlong : ∀ t ∈ ts, t.long ≤ 258) : Ev (fun k => wainloadref07_Alone.f k (ts.map toS)) (alone ts) := by
  have := r_alone_from ts hts hlong ts.length 0 [] (by omega) (by omega) (by simp)
  rw [List.drop_zero, List.nil_append] at this
  exact this

theorem near_rd {l : List Int} (hB : AllB l) (i : Nat) (h : i < l.length) : rd l (i : Int) = (byt l i : Int) := by
  unfold rd
  rw [Int.toNat_natCast]
  exact byt_eq hB i h
theorem r_near_from (l : List Int) (hB : AllB l) (hl : l.length ≤ 100000) (i : Nat) (hi : i < l.length) : ∀ (d b : Nat), 65 - b = d → 1 ≤ b → b ≤ 65 → ∃ r, Ev (fun k => wainloadref07_Near.l0 k l (i : Int) (b : Int)) r ∧ (r = true → Near l i) := by
  intro d
  induction d with
  | zero =>
    intro b hd h1 h65
    refine ⟨false, ?_, fun h => by cases h⟩
    refine Ev.step (f := fun k => wainloadref07_Near.j1 k l (i : Int) (b : Int) false) (fun k => by rw [wainloadref07_Near.l0, if_neg (by omega)]) ?_
    refine Ev.step (f := fun _ => some false) (fun k => ?_) (Ev.now _)
    rw [wainloadref07_Near.j1, if_neg (by decide)]
  | succ d ih =>
    intro b hd h1 h65
    by_cases hbi : b ≤ i
    · have hw3 : wrap64 ((i : Int) + 3) = ((i + 3 : Nat) : Int) := wrap64_in _ (by omega) (by omega)
      by_cases h3 : i + 3 ≤ l.length
      · have hwb : wrap64 ((b : Int) + 1) = ((b + 1 : Nat) : Int) := wrap64_in _ (by omega) (by omega)
        have w1 : wrap64 ((i : Int) + 1) = ((i + 1 : Nat) : Int) := wrap64_in _ (by omega) (by omega)
        have w2 : wrap64 ((i : Int) + 2) = ((i + 2 : Nat) : Int) := wrap64_in _ (by omega) (by omega)
        have d0 : wrap64 ((i : Int) - (b : Int)) = ((i - b : Nat) : Int) := by rw [wrap64_in _ (by omega) (by omega)]; omega
        have d1 : wrap64 (((i + 1 : Nat) : Int) - (b : Int)) = ((i - b + 1 : Nat) : Int) := by rw [wrap64_in _ (by omega) (by omega)]; omega
        have d2 : wrap64 (((i + 2 : Nat) : Int) - (b : Int)) = ((i - b + 2 : Nat) : Int) := by rw [wrap64_in _ (by omega) (by omega)]; omega
        have s0 : ∀ k, wainloadref07_Near.l0 (k + 1) l (i : Int) (b : Int) = wainloadref07_Near.j1 k l (i : Int) (b : Int) true := fun k => by
          rw [wainloadref07_Near.l0, if_pos (by omega), if_pos (by omega), hw3, decide_eq_true (by omega)]
        obtain ⟨r, hr1, hr2⟩ := ih (b + 1) (by omega) (by omega) (by omega)
        have e0 := near_rd hB i (by omega)
        have e1 := near_rd hB (i + 1) (by omega)
        have e2 := near_rd hB (i + 2) (by omega)
        have f0 := near_rd hB (i - b) (by omega)
        have f1 := near_rd hB (i - b + 1) (by omega)
        have f2 := near_rd hB (i - b + 2) (by omega)
        by_cases c0 : byt l i = byt l (i - b)
        · by_cases c1 : byt l (i + 1) = byt l (i - b + 1)
          · by_cases c2 : byt l (i + 2) = byt l (i - b + 2)
            · refine ⟨true, Ev.step s0 (Ev.step (f := fun _ => some true) (fun k => ?_) (Ev.now _)), fun _ => ⟨h3, i - b, by omega, by omega, fun j hj => ?_⟩⟩
              · rw [wainloadref07_Near.j1, if_pos rfl, d0, w1, w2, d1, d2, e0, e1, e2, f0, f1, f2, if_pos (by omega), if_pos (by omega), if_pos (by omega), if_pos (by omega), if_pos (by omega), if_pos (by omega), if_pos (by omega), if_pos (by omega), if_pos (by omega), if_pos (by omega), if_pos (by omega), if_pos (by omega), if_pos (by omega), if_pos (by omega), if_pos (by omega)]
              · match j, hj with
                | 0, _ => exact c0.symm
                | 1, _ => exact c1.symm
                | 2, _ => exact c2.symm
            · refine ⟨r, Ev.step s0 (Ev.step (fun k => ?_) hr1), hr2⟩
              rw [wainloadref07_Near.j1, if_pos rfl, d0, w1, w2, d1, d2, e0, e1, e2, f0, f1, f2, if_pos (by omega), if_pos (by omega), if_pos (by omega), if_pos (by omega), if_pos (by omega), if_pos (by omega), if_pos (by omega), if_pos (by omega), if_pos (by omega), if_pos (by omega), if_pos (by omega), if_pos (by omega), if_pos (by omega), if_pos (by omega), if_neg (by omega), hwb]
          · refine ⟨r, Ev.step s0 (Ev.step (fun k => ?_) hr1), hr2⟩
            rw [wainloadref07_Near.j1, if_pos rfl, d0, w1, d1, e0, e1, f0, f1, if_pos (by omega), if_pos (by omega), if_pos (by omega), if_pos (by omega), if_pos (by omega), if_pos (by omega), if_pos (by omega), if_pos (by omega), if_pos (by omega), if_neg (by omega), hwb]
        · refine ⟨r, Ev.step s0 (Ev.step (fun k => ?_) hr1), hr2⟩
          rw [wainloadref07_Near.j1, if_pos rfl, d0, e0, f0, if_pos (by omega), if_pos (by omega), if_pos (by omega), if_pos (by omega), if_neg (by omega), hwb]
      · refine ⟨false, ?_, fun h => by cases h⟩
        refine Ev.step (f := fun k => wainloadref07_Near.j1 k l (i : Int) (b : Int) false) (fun k => by rw [wainloadref07_Near.l0, if_pos (by omega), if_pos (by omega), hw3, decide_eq_false (by omega)]) ?_
        refine Ev.step (f := fun _ => some false) (fun k => ?_) (Ev.now _)
        rw [wainloadref07_Near.j1, if_neg (by decide)]
    · refine ⟨false, ?_, fun h => by cases h⟩
      refine Ev.step (f := fun k => wainloadref07_Near.j1 k l (i : Int) (b : Int) false) (fun k => by rw [wainloadref07_Near.l0, if_pos (by omega), if_neg (by omega)]) ?_
      refine Ev.step (f := fun _ => some false) (fun k => ?_) (Ev.now _)
      rw [wainloadref07_Near.j1, if_neg (by decide)]
theorem r_near (l : List Int) (hB : AllB l) (hl : l.length ≤ 100000) (i : Nat) (hi : i < l.length) : ∃ r, Ev (fun k => wainloadref07_Near.f k l (i : Int)) r ∧ (r = true → Near l i) := r_near_from l hB hl i hi 64 1 (by omega) (by omega) (by omega)

theorem nears_loop (l : List Int) (hB : AllB l) (hl : l.length ≤ 100000) (al : List Bool) (hal : al.length = l.length) (hno : ∀ i, al[i]? = some true → ¬ Near l i) : ∀ (d i : Nat), l.length - i = d → i ≤ l.length →
    Ev (fun k => wainloadlaw07_MatchNears.l0 k l al (i : Int)) true := by
  have hend : ∀ i : Nat, ¬ (i + 1 < l.length) → i ≤ l.length → Ev (fun k => wainloadlaw07_MatchNears.l0 k l al (i : Int)) true := by
    intro i h1 h2
    refine Ev.step (f := fun _ => some true) (fun k => ?_) (Ev.now _)
    rw [wainloadlaw07_MatchNears.l0, if_neg (by rw [wrap64_in _ (by omega) (by omega)]; omega)]
    rfl
  intro d
  induction d with
  | zero => intro i hd hi; exact hend i (by omega) hi
  | succ d ih =>
    intro i hd hi
    by_cases h1 : i + 1 < l.length
    · have w1 : wrap64 ((i : Int) + 1) = ((i + 1 : Nat) : Int) := wrap64_in _ (by omega) (by omega)
      have IH := ih (i + 1) (by omega) (by omega)
      have ra : ∀ j : Nat, j < al.length → rdOf false al (j : Int) = al[j]?.getD false := fun j hj => by
        unfold rdOf
        rw [Int.toNat_natCast, List.getD_eq_getElem?_getD]
      by_cases c0 : al[i]?.getD false = true
      · have hi0 : al[i]? = some true := by
          rw [List.getElem?_eq_getElem (by omega)] at c0 ⊢
          simpa using c0
        by_cases c1 : al[i + 1]?.getD false = true
        · obtain ⟨r, hr1, hr2⟩ := r_near l hB hl i (by omega)
          have hr : r = false := by
            cases r with
            | false => rfl
            | true => exact absurd (hr2 rfl) (hno i hi0)
          subst hr
          refine Ev.step (f := fun k => (wainloadref07_Near.f k l (i : Int)).bind fun t198 => (if t198 = true then ((wainloadref07_Near.f k l ((i + 1 : Nat) : Int)).bind fun t199 => (if t199 = true then (some false) else (wainloadlaw07_MatchNears.l0 k l al ((i + 1 : Nat) : Int)))) else (wainloadlaw07_MatchNears.l0 k l al ((i + 1 : Nat) : Int)))) (fun k => ?_) ?_
          · rw [wainloadlaw07_MatchNears.l0, w1, if_pos (by omega), if_pos (by omega), if_pos (by omega), ra i (by omega), if_pos c0, if_pos (by omega), if_pos (by omega), ra (i + 1) (by omega), if_pos c1]
          · refine Ev.bind hr1 ?_
            simp only [Bool.false_eq_true, if_false]
            exact IH
        · refine Ev.step (fun k => ?_) IH
          rw [wainloadlaw07_MatchNears.l0, w1, if_pos (by omega), if_pos (by omega), if_pos (by omega), ra i (by omega), if_pos c0, if_pos (by omega), if_pos (by omega), ra (i + 1) (by omega), if_neg c1]
      · refine Ev.step (fun k => ?_) IH
        rw [wainloadlaw07_MatchNears.l0, w1, if_pos (by omega), if_pos (by omega), if_pos (by omega), ra i (by omega), if_neg c0]
    · exact hend i h1 hi

theorem long_le_find (l : List Int) (lev : Int) (T : Nat) : ∀ (f a : Nat) (st : St) (toks : List Tok), st.Inv a → a ≤ l.length → (∀ t ∈ toks, t.long ≤ 258) → ∀ t ∈ findL l lev T f a st toks, t.long ≤ 258
  | 0, _, _, _, _, _, h => h
  | f + 1, a, st, toks, hi, ha, h => by
    by_cases hlt : a < l.length
    · obtain ⟨p, hp⟩ : ∃ p, MF.step l lev T st a = p := ⟨_, rfl⟩
      obtain ⟨n, b⟩ := p
      have hrun := (step_run l lev st T a hi (by omega)).1
      rw [hp] at hrun
      by_cases h0 : n = 0
      · rw [find_alone hlt hp h0]
        exact long_le_find l lev T f _ _ _ (note_inv hi) (by omega) (fun t ht => by
          rcases List.mem_append.1 ht with h1 | h1
          · exact h t h1
          · simp at h1; subst h1; simp)
      · rw [find_run hlt hp h0]
        exact long_le_find l lev T f _ _ _ (noteAll_inv hi n) (by have := hrun.2.1; simp at this; omega) (fun t ht => by
          rcases List.mem_append.1 ht with h1 | h1
          · exact h t h1
          · simp at h1; subst h1; exact hrun.1)
    · rw [find_end (by omega)]; exact h

theorem MatchNears : wainloadlaw07_MatchNears.Pure := by
  intro l lev h1 h2 hw _
  apply Ev.rounds
  unfold wainloadlaw07_MatchNears.f
  have hal : wainloadlaw07_alive.f = some true := rfl
  have early : Ev (fun k => wainloadlaw07_MatchNears.j0 k l lev true) true := by
    refine Ev.step (f := fun _ => some true) (fun k => ?_) (Ev.now _)
    rw [wainloadlaw07_MatchNears.j0, if_pos rfl, hal]
    rfl
  by_cases hl : (l.length : Int) > 3000
  · simp only [if_pos hl]
    exact early
  · simp only [if_neg hl]
    by_cases hlev : lev < 1
    · rw [decide_eq_true hlev]
      exact early
    · rw [decide_eq_false hlev]
      obtain ⟨hf, hB⟩ := find_f l lev hw (by omega)
      obtain ⟨r1, r2, r3⟩ := find_right l hB lev
      have hA := findL_alone l lev (by omega) (MF.tries lev) (l.length + 1) 0 St.new [] (St.new_inv 0) (all_new l) (one_new l) (by omega) (by omega) rfl (fun i h => by simp [alone] at h)
      have hL := long_le_find l lev (MF.tries lev) (l.length + 1) 0 St.new [] (St.new_inv 0) (by omega) (fun t h => by simp at h)
      refine Ev.step (f := fun k => (wainloadref07_Alone.f k ((MF.find l lev).map toS)).bind fun t => (if (t.length : Int) = (l.length : Int) then (wainloadlaw07_MatchNears.l0 k l t 0) else (some false))) (fun k => ?_) ?_
      · rw [wainloadlaw07_MatchNears.j0, if_neg (by decide), hf, Option.bind_some]
      · refine Ev.bind (r_alone _ (by omega) hL) ?_
        have e : (alone (MF.find l lev)).length = l.length := hA.1
        simp only [e, if_true]
        exact nears_loop l hB (by omega) _ hA.1 hA.2 l.length 0 (by omega) (by omega)

end Go.Proofs.Ytohkjiellcikhaa.Pure
