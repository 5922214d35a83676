/- MatchLike, without Go and memory: like bytes are told by few tokens. -/
import Derived.Test.YtohkjiellcikhaaP07x17
import Derived.Test.YtohkjiellcikhaaMatchR
namespace Go.Proofs.Ytohkjiellcikhaa.Pure
open Go.RowKit Go.Proofs.Ytohkjiellcikhaa.P07 Go.Proofs.YtohkjiellcikhaaW.PrintWords Go.Proofs.YtohkjiellcikhaaW.PrintLast Go.Proofs.Ytohkjiellcikhaa MF
set_option linter.unusedVariables false

theorem best_like (l : List Int) (b : Nat) (hl : ∀ i, i < l.length → byt l i = b) (T : Nat) (s : St) (a : Nat) (hi : s.Inv a) (hall : StAll l s a) (ha : 1 ≤ a) (ha3 : a + 3 ≤ l.length) : (best l s T a).1 = min 258 (l.length - a) := by
  have h3 : Three l (a - 1) a := fun i hi => by rw [hl _ (by omega), hl _ (by omega)]
  have hla := (hall (a - 1) (by omega) (by omega)).1
  rw [room_three h3] at hla
  have hlb := hi.1 (room l a)
  have hp : s.last (room l a) = a := by omega
  have hc : min 258 (l.length - a) ≤ common l (a - 1) a := common_ge l (a - 1) a _ (by omega) (by omega) (fun i hi => by rw [hl _ (by omega), hl _ (by omega)])
  have hR : min 258 (l.length - a) ≤ (bestR l s T a).1 := by
    unfold bestR
    rw [hp]
    unfold bestL
    rw [if_neg (by omega), if_neg (by omega)]
    have h2 : 0 < common l (a - 1) a := by omega
    simp only [if_pos h2]
    split
    · exact hc
    · exact Nat.le_trans hc (bestL_ge l a T s.ahead a _ _ _ _)
  have hrun := bestR_run l s T a hi (by omega)
  have hle := hrun.1
  have hle2 := hrun.2.1
  unfold best
  rw [if_neg (by omega), if_neg (by omega)]
  omega
theorem best_first (l : List Int) (T : Nat) (s : St) (hi : s.Inv 0) : (best l s T 0).1 = 0 := by
  have hp : s.last (room l 0) = 0 := by have := hi.1 (room l 0); omega
  have : (bestR l s T 0).1 = 0 := by
    unfold bestR
    rw [hp]
    unfold bestL
    rw [if_pos rfl]
  unfold best
  split
  · rfl
  · rw [if_pos (by omega)]

theorem findL_like (l : List Int) (b : Nat) (hl : ∀ i, i < l.length → byt l i = b) (lev : Int) (hlev : 0 < lev) (T : Nat) : ∀ (f a : Nat) (st : St) (toks : List Tok), st.Inv a → StAll l st a → 1 ≤ a → a ≤ l.length → l.length - a < f →
    (findL l lev T f a st toks).length ≤ toks.length + (l.length - a) / 258 + (if l.length - a < 3 then l.length - a else 2)
  | 0, a, st, toks, _, _, _, _, hf => by omega
  | f + 1, a, st, toks, hi, hall, ha, hal, hf => by
    by_cases hlt : a < l.length
    · obtain ⟨p, hp⟩ : ∃ p, MF.step l lev T st a = p := ⟨_, rfl⟩
      obtain ⟨n, k⟩ := p
      by_cases h3 : a + 3 ≤ l.length
      · have hn : n = min 258 (l.length - a) := by
          have := best_like l b hl T st a hi hall ha h3
          unfold MF.step at hp
          rw [if_pos hlev] at hp
          rw [hp] at this
          exact this
        rw [find_run hlt hp (by omega)]
        have := findL_like l b hl lev hlev T f (a + n) (noteAll l st a n) (toks ++ [⟨0, n, k⟩]) (noteAll_inv hi n) (noteAll_all hi hall n) (by omega) (by omega) (by omega)
        rw [List.length_append, List.length_singleton] at this
        by_cases hc : 258 ≤ l.length - a
        · rw [show n = 258 by omega] at this
          rw [show (n : Nat) = 258 by omega]
          rw [if_neg (by omega)]
          have e : l.length - (a + 258) = l.length - a - 258 := by omega
          rw [e] at this
          split at this <;> omega
        · have e : l.length - (a + n) = 0 := by omega
          rw [e, if_pos (by omega)] at this
          rw [if_neg (by omega)]
          omega
      · have hn : n = 0 := by
          unfold MF.step at hp
          rw [if_pos hlev] at hp
          unfold best at hp
          rw [if_pos (by omega)] at hp
          exact (congrArg Prod.fst hp).symm
        rw [find_alone hlt hp hn]
        have := findL_like l b hl lev hlev T f (a + 1) (note l st a) (toks ++ [⟨byt l a, 0, 0⟩]) (note_inv hi) (note_all hi hall) (by omega) (by omega) (by omega)
        rw [List.length_append, List.length_singleton, if_pos (by omega)] at this
        rw [if_pos (by omega)]
        omega
    · have e : a = l.length := by omega
      subst e
      rw [find_end (Nat.le_refl _)]
      omega
theorem find_like (l : List Int) (b : Nat) (hl : ∀ i, i < l.length → byt l i = b) (lev : Int) (hlev : 0 < lev) (h1 : 4 ≤ l.length) : (MF.find l lev).length ≤ 4 + l.length / 200 := by
  unfold MF.find
  obtain ⟨p, hp⟩ : ∃ p, MF.step l lev (tries lev) St.new 0 = p := ⟨_, rfl⟩
  obtain ⟨n, k⟩ := p
  have hn : n = 0 := by
    have := best_first l (tries lev) St.new (St.new_inv 0)
    unfold MF.step at hp
    rw [if_pos hlev] at hp
    rw [hp] at this
    exact this
  rw [find_alone (by omega) hp hn]
  have := findL_like l b hl lev hlev (tries lev) l.length 1 (note l St.new 0) ([] ++ [⟨byt l 0, 0, 0⟩]) (note_inv (St.new_inv 0)) (note_all (St.new_inv 0) (all_new l)) (by omega) (by omega) (by omega)
  rw [if_neg (by omega), List.nil_append, List.length_singleton] at this
  rw [Nat.zero_add, List.nil_append]
  omega

theorem set_fill (x : Int) (n i : Nat) (h : i < n) : (List.replicate i x ++ List.replicate (n - i) (0 : Int)).set i x = List.replicate (i + 1) x ++ List.replicate (n - (i + 1)) 0 := by
  obtain ⟨m, hm⟩ : ∃ m, n - i = m + 1 := ⟨n - i - 1, by omega⟩
  rw [hm, show n - (i + 1) = m by omega, List.set_append_right _ _ (by simp), List.length_replicate, Nat.sub_self, List.replicate_succ, List.set_cons_zero, List.replicate_succ', List.append_assoc, List.singleton_append]

theorem like_end (x : Int) (n : Nat) (lev : Int) (hx : (Lit.int .u8 x).wf = true) (h4 : 4 ≤ n) (hn : n ≤ 20000) (hlev : 1 ≤ lev) :
    ∀ d i : Nat, n - i = d → i ≤ n → Ev (fun k => wainloadlaw07_MatchLike.l0 k x (n : Int) lev (List.replicate i x ++ List.replicate (n - i) 0) (n : Int) (i : Int)) true := by
  intro d
  induction d with
  | zero =>
    intro i hd hi
    have : i = n := by omega
    subst this
    rw [Nat.sub_self, List.replicate_zero, List.append_nil]
    have hlen : (List.replicate i x).length = i := List.length_replicate ..
    obtain ⟨hf, hB⟩ := find_f (List.replicate i x) lev (fun y hy => by rw [List.eq_of_mem_replicate hy]; exact hx) (by omega)
    obtain ⟨r1, r2, r3⟩ := find_right (List.replicate i x) hB lev
    have hl3 : ((MF.find (List.replicate i x) lev).map toS).length = (MF.find (List.replicate i x) lev).length := List.length_map ..
    have hlk := find_like (List.replicate i x) x.toNat (fun j hj => by unfold byt; rw [List.getD_eq_getElem?_getD, List.getElem?_eq_getElem hj, Option.getD_some, List.getElem_replicate]) lev (by omega) (by omega)
    have hal : wainloadlaw07_alive.f = some true := rfl
    rw [hlen] at hlk
    have htd : Int.tdiv (i : Int) 200 = ((i / 200 : Nat) : Int) := by rw [Int.tdiv_eq_ediv_of_nonneg (by omega)]; rfl
    have hw1 : wrap64 (Int.tdiv (i : Int) 200) = ((i / 200 : Nat) : Int) := by rw [htd]; exact wrap64_in _ (by omega) (by omega)
    have hw2 : wrap64 (4 + ((i / 200 : Nat) : Int)) = ((4 + i / 200 : Nat) : Int) := by rw [wrap64_in _ (by omega) (by omega)]; omega
    refine Ev.step (f := fun k => (wainloadref07_Right.f k ((MF.find (List.replicate i x) lev).map toS)).bind fun t191 => if t191 = true then ((wainloadref07_Tell.f k ((MF.find (List.replicate i x) lev).map toS)).bind fun t192 => some ((strOfNums t192).toList == (strOfNums (List.replicate i x)).toList)) else some false) (fun k => ?_) ?_
    · rw [wainloadlaw07_MatchLike.l0, if_neg (by omega), hf, Option.bind_some, hal, Option.bind_some, if_pos rfl, hw1, hw2, if_pos (by omega)]
    · have hr := r_right ((MF.find (List.replicate i x) lev).map toS) (by omega)
      rw [r1] at hr
      refine Ev.bind hr ?_
      simp only [Option.isSome_some, if_true]
      refine Ev.bind (r_tell _ (by omega) _ r1) ?_
      rw [r2, beq_self_eq_true]
      exact Ev.now _
  | succ d ih =>
    intro i hd hi
    have hw : wrap64 ((i : Int) + 1) = ((i + 1 : Nat) : Int) := wrap64_in _ (by omega) (by omega)
    refine Ev.step (fun k => ?_) (ih (i + 1) (by omega) (by omega))
    rw [wainloadlaw07_MatchLike.l0, if_pos (by omega), if_pos (by omega), if_pos (by simp; omega), hw, Int.toNat_natCast, set_fill x n i (by omega)]

theorem MatchLike : wainloadlaw07_MatchLike.Pure := by
  intro x n lev hx h1 h2
  apply Ev.rounds
  unfold wainloadlaw07_MatchLike.f
  have hal : wainloadlaw07_alive.f = some true := rfl
  have hskip : Ev (fun k => wainloadlaw07_MatchLike.j0 k x n lev true) true := by
    refine Ev.step (f := fun _ => some true) (fun k => ?_) (Ev.now _)
    rw [wainloadlaw07_MatchLike.j0, if_pos rfl, hal, Option.bind_some]
  by_cases ha : n < 4
  · simp only [if_pos ha]; exact hskip
  simp only [if_neg ha]
  by_cases hb : n > 20000
  · simp only [if_pos hb]; exact hskip
  simp only [if_neg hb]
  by_cases hc : lev < 1
  · rw [decide_eq_true hc]; exact hskip
  rw [decide_eq_false hc]
  obtain ⟨m, rfl⟩ : ∃ m : Nat, n = (m : Int) := ⟨n.toNat, by omega⟩
  have := like_end x m lev hx (by omega) (by omega) (by omega) m 0 (by omega) (by omega)
  rw [List.replicate_zero, List.nil_append, Nat.sub_zero] at this
  refine Ev.step (fun k => ?_) this
  rw [wainloadlaw07_MatchLike.j0, if_neg (by decide), if_pos (by omega), if_pos (by omega), Int.toNat_natCast, Option.bind_some, List.length_replicate]
  rfl

end Go.Proofs.Ytohkjiellcikhaa.Pure
