/- VerifyFirst: what is told to be wrong alone is the first such; a program whose instructions are all right alone, and that ends by a return, is refused for a scratch word, or not at all; for every program. -/
import Derived.Test.YtmjpibeiglicdaaVerC
import Derived.Test.YtmjpibeiglicdaaX14
import Derived.Test.YtmjpibeiglicdaaArgs
namespace Go.Proofs.Ytmjpibeiglicdaa.Pure
open Go.RowKit Go.Proofs.Ytmjpibeiglicdaa.X Go.Proofs.Ytmjpibeiglicdaa.Ver Go.Proofs.YtmjpibeiglicdaaW.PrintWords Go.Proofs.YtmjpibeiglicdaaW.PrintLast Go.Proofs.YtmjpibeiglicdaaW.PrintMore
open Go.Proofs.Ytmjpibeiglicdaa.Code (kindOf codes)

theorem fit_of {x : S56} (h : Wf56 x) : Fit x := by
  obtain ⟨h0, h1, h2, h3⟩ := h
  have a := u16_of h0
  have b := u8_of h1
  have c := u8_of h2
  have d := u32_of h3
  exact ⟨a.1, a.2, b.1, b.2, c.1, c.2, d.1, d.2⟩
theorem ok_of {l : List S56} (h : ∀ x ∈ l, Wf56 x) (hl : l.length ≤ 10000) : Ok l := ⟨hl, fun x hx => fit_of (h x hx)⟩

/-- The first wrong one at or behind i; the length: none. -/
def firstB (l : List S56) : Nat → Nat
  | 0 => l.length
  | d + 1 => if errAt l (l.length - (d + 1)) = 0 then firstB l d else l.length - (d + 1)
theorem first_bad (l : List S56) : ∀ d, d ≤ l.length → (firstB l d = l.length ∧ (bad l d (l.length - d)).2 = 0) ∨ (firstB l d < l.length ∧ errAt l (firstB l d) ≠ 0 ∧ bad l d (l.length - d) = (((firstB l d : Nat) : Int), errAt l (firstB l d)))
  | 0, _ => .inl ⟨rfl, rfl⟩
  | d + 1, hd => by
    have ih := first_bad l d (by omega)
    rw [firstB, bad]
    by_cases c : errAt l (l.length - (d + 1)) = 0
    · rw [if_pos c, if_pos c, show l.length - (d + 1) + 1 = l.length - d by omega]; exact ih
    · rw [if_neg c, if_neg c]; exact .inr ⟨by omega, c, rfl⟩

/-- A scratch word that is read was not written for sure: what the scan tells. -/
theorem scan_tells (l : List S56) (A : List Int) : ∀ d i, scan l A d i = (0, 0) ∨ ∃ j, i ≤ j ∧ j < i + d ∧ scan l A d i = ((j : Int), 10) ∧ (kindOf (at_ l j).f0 = 4 ∨ kindOf (at_ l j).f0 = 6) ∧ Go.bits .and .u16 (shr .u16 (rd A (j : Int)) (at_ l j).f3) 1 = 0
  | 0, _ => .inl rfl
  | d + 1, i => by
    rw [scan]
    by_cases c : (kindOf (at_ l i).f0 = 4 ∨ kindOf (at_ l i).f0 = 6) ∧ Go.bits .and .u16 (shr .u16 (rd A (i : Int)) (at_ l i).f3) 1 = 0
    · rw [if_pos c]; exact .inr ⟨i, by omega, by omega, rfl, c.1, c.2⟩
    · rw [if_neg c]
      rcases scan_tells l A d (i + 1) with h | ⟨j, h1, h2, h3, h4⟩
      · exact .inl h
      · exact .inr ⟨j, by omega, by omega, h3, h4⟩

theorem first_tail (l : List S56) (h : Ok l) (hn : 0 < l.length) (hm : l.length ≤ 300) :
    Ev (fun k => tamislaw06_VerifyFirst.l0 k l (check l).1 (check l).2 ((firstB l l.length : Nat) : Int) (-1)) true := by
  have hlast := last_at h hn
  have hwe : whole l = bad l l.length 0 := by unfold whole; rw [if_neg (by omega), if_neg (by omega)]
  have hb := first_bad l l.length (Nat.le_refl _)
  rw [Nat.sub_self] at hb
  refine Ev.step (fun k => by rw [tamislaw06_VerifyFirst.l0, if_neg (by decide)]) ?_
  rcases hb with ⟨hf, hz⟩ | ⟨hlt, hne, hbe⟩
  · -- nothing is wrong alone
    have hw0 : (whole l).2 = 0 := by rw [hwe]; exact hz
    obtain ⟨_, _, hF, _⟩ := whole_fine hw0
    rw [hf]
    refine Ev.congr (fun k => by rw [if_neg (by omega), hlast, if_pos (by omega), if_pos (by omega), rd_at]) ?_
    refine Ev.bind (ref_kind _) ?_
    by_cases q : kindOf (at_ l (l.length - 1)).f0 = 13 ∨ kindOf (at_ l (l.length - 1)).f0 = 14
    · have hc : check l = scan l (Ver.written l) l.length 0 := by unfold check; rw [if_pos hw0, if_pos q]
      have fin : ∀ f : Bool, f = false → Ev (fun k => tamislaw06_VerifyFirst.j2 k l (check l).1 (check l).2 f) true := by
        intro f hff
        rcases scan_tells l (Ver.written l) l.length 0 with hs | ⟨j, _, hj, hs, hk, hb⟩
        · rw [hc, hs]
          exact Ev.step (fun k => by rw [tamislaw06_VerifyFirst.j2, if_neg (by rw [hff]; decide), if_pos rfl]; rfl) (Ev.now _)
        · rw [hc, hs]
          have hj' : j < l.length := by omega
          have h16 := fine_word hF hj' (by omega)
          obtain ⟨a0, a1, b0, b1, c0, c1, d0, d1⟩ := h.at_ j
          obtain ⟨K, hKe⟩ := Int.eq_ofNat_of_zero_le d0
          have hA : Ver.written l = rep l.length fun w => bareS l w l.length := if_pos hw0
          rw [hA, rep_rd _ _ j hj', hKe] at hb
          have hbare := (num_read _ K (by omega)).1 hb
          have hbare : (bareS l K l.length).getD j false = true := by simpa using hbare
          have hwo : without l K = bareS l K l.length := if_neg (by omega)
          refine Ev.step (fun k => by rw [tamislaw06_VerifyFirst.j2, if_neg (by rw [hff]; decide), if_neg (show ¬ (10 : Int) = 0 by decide), if_neg (by omega), decide_eq_false (show ¬ (j : Int) ≥ (l.length : Int) by omega)]) ?_
          refine Ev.step (fun k => by rw [tamislaw06_VerifyFirst.j3, if_neg (by decide), if_pos (by omega), if_pos (by omega), rd_at]) ?_
          refine Ev.bind (ref_kind _) ?_
          have e3 : wrap64 (at_ l j).f3 = (K : Int) := by rw [hKe]; exact ws _ (by omega) (by omega)
          have wo := without_ev l h K
          have fin2 : Ev (fun k => (tamisref06_Without.f k l (wrap64 (at_ l j).f3)).bind fun t369 => (if (j : Int) < (t369.length : Int) then (some (rdOf false t369 (j : Int))) else (none))) true := by
            rw [e3]
            refine Ev.bind wo ?_
            rw [hwo]
            refine Ev.congr (fun k => by rw [if_pos (by rw [bare_len]; omega), show rdOf false (bareS l K l.length) (j : Int) = (bareS l K l.length).getD j false by simp [rdOf], hbare]) (Ev.now _)
          by_cases k4 : kindOf (at_ l j).f0 = 4
          · refine Ev.congr (fun k => by rw [if_pos rfl, if_pos k4]) fin2
          · refine Ev.congr (fun k => by rw [if_pos rfl, if_neg k4, if_pos (by omega)]) fin2
      by_cases q1 : kindOf (at_ l (l.length - 1)).f0 = 13
      · exact Ev.congr (fun k => by rw [if_pos q1]) (fin false rfl)
      · refine Ev.congr (fun k => by rw [if_neg q1]) (fin _ ?_)
        have : kindOf (at_ l (l.length - 1)).f0 = 14 := by omega
        rw [this]; rfl
    · have hc : check l = (((l.length - 1 : Nat) : Int), 12) := by unfold check; rw [if_pos hw0, if_neg q]
      rw [hc]
      refine Ev.congr (fun k => by rw [if_neg (by omega)]) ?_
      exact Ev.step (fun k => by rw [tamislaw06_VerifyFirst.j2, if_pos (bne_iff_ne.2 (fun e => q (.inr e))), hlast, if_pos rfl]; rfl) (Ev.now _)
  · -- the first that is wrong alone
    have hc : check l = (((firstB l l.length : Nat) : Int), errAt l (firstB l l.length)) := by
      unfold check
      rw [hwe, hbe, if_neg hne]
    rw [hc]
    refine Ev.congr (fun k => by rw [if_pos (by omega), if_pos rfl]) ?_
    exact Ev.bind (local_ev l h _ hlt) (Ev.congr (fun k => by simp) (Ev.now _))

theorem first_loop (l : List S56) (h : Ok l) (hn : 0 < l.length) (hm : l.length ≤ 300) : ∀ i d, i + d = l.length →
    Ev (fun k => tamislaw06_VerifyFirst.l0 k l (check l).1 (check l).2 ((firstB l d : Nat) : Int) ((i : Int) - 1)) true
  | 0, d, hi => by
    obtain rfl : d = l.length := by omega
    exact first_tail l h hn hm
  | i + 1, d, hi => by
    have ih := first_loop l h hn hm i (d + 1) (by omega)
    have ei : (((i + 1 : Nat) : Int) - 1) = (i : Int) := by omega
    have ew : wrap64 ((i : Int) - 1) = (i : Int) - 1 := ws _ (by omega) (by omega)
    rw [ei]
    refine Ev.step (fun k => by rw [tamislaw06_VerifyFirst.l0, if_pos (by omega), ew]) ?_
    refine Ev.bind (local_ev l h i (by omega)) ?_
    rw [firstB, show l.length - (d + 1) = i by omega] at ih
    by_cases c : errAt l i = 0
    · rw [if_pos c] at ih
      exact Ev.congr (fun k => by rw [if_pos c]) ih
    · rw [if_neg c] at ih
      exact Ev.congr (fun k => by rw [if_neg c]) ih

theorem VerifyFirst (l : List S56) (hw : ∀ x ∈ l, Wf56 x) : ∃ k, tamislaw06_VerifyFirst.f k l = some true := by
  apply Ev.rounds
  unfold tamislaw06_VerifyFirst.f tamislaw06_awake.f
  refine Ev.congr (fun k => by rw [Option.bind_some, if_pos rfl]) ?_
  have out : ∀ f : Bool, f = true → Ev (fun k => tamislaw06_VerifyFirst.j0 k l f) true := fun f hf =>
    Ev.step (fun k => by rw [tamislaw06_VerifyFirst.j0, if_pos hf, tamislaw06_awake.f, Option.bind_some]) (Ev.now _)
  by_cases z : (l.length : Int) = 0
  · exact Ev.congr (fun k => by rw [if_pos z]) (out true rfl)
  · refine Ev.congr (fun k => by rw [if_neg z]) ?_
    by_cases c : (l.length : Int) > 300
    · exact out _ (decide_eq_true c)
    · have h : Ok l := ok_of hw (by omega)
      refine Ev.step (fun k => by rw [tamislaw06_VerifyFirst.j0, if_neg (by simpa using c), Option.bind_some, if_pos (by simp; omega), List.nil_append]) ?_
      refine Ev.bind (check_ev l h) ?_
      have := first_loop l h (by omega) (by omega) l.length 0 (by omega)
      have ew : wrap64 ((l.length : Int) - 1) = (l.length : Int) - 1 := ws _ (by omega) (by omega)
      rw [ew]
      exact this

end Go.Proofs.Ytmjpibeiglicdaa.Pure
