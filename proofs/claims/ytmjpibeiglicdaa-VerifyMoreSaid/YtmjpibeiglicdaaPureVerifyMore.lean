/- VerifyMore: a filter behind instructions that load, and jump nowhere else, is one, too; with one instruction more behind it that returns, too; for all programs. -/
import Derived.Test.YtmjpibeiglicdaaVerE
import Derived.Test.YtmjpibeiglicdaaX12
import Derived.Test.YtmjpibeiglicdaaArgs
namespace Go.Proofs.Ytmjpibeiglicdaa.Pure
open Go.RowKit Go.Proofs.Ytmjpibeiglicdaa.X Go.Proofs.Ytmjpibeiglicdaa.Ver Go.Proofs.YtmjpibeiglicdaaW.PrintWords Go.Proofs.YtmjpibeiglicdaaW.PrintLast Go.Proofs.YtmjpibeiglicdaaW.PrintMore
open Go.Proofs.Ytmjpibeiglicdaa.Code (kindOf codes)

theorem fit_of {x : S56} (h : Wf56 x) : Fit x := by
  obtain ⟨h0, h1, h2, h3⟩ := h
  have a := u16_of h0
  have b := u8_of h1
  have c := u8_of h2
  have d := u32_of h3
  exact ⟨a.1, a.2, b.1, b.2, c.1, c.2, d.1, d.2⟩
theorem ok_of {l : List S56} (h : ∀ x ∈ l, Wf56 x) (hl : l.length ≤ 10000) : Ok l := ⟨hl, fun x hx => fit_of (h x hx)⟩
theorem ret_fit : Fit ⟨6, 0, 0, 0⟩ := by unfold Fit; decide

theorem more_end (l : List S56) (h : Ok l) (hl : l.length ≤ 200) (q : List S56) (hq : q.length ≤ 50) (hL : ∀ x ∈ q, Loads x) (hF : ∀ x ∈ q, Fit x) (a : List S56) (i : Nat) (hi : a.length ≤ i) :
    Ev (fun k => tamislaw06_VerifyMore.l0 k l q a (a.length : Int) (i : Int)) true := by
  have hqo : Ok (q ++ l) := ⟨by rw [List.length_append]; omega, fun x hx => by
    rcases List.mem_append.1 hx with hx | hx
    · exact hF x hx
    · exact h.fit x hx⟩
  have hro : Ok (l ++ [(⟨6, 0, 0, 0⟩ : S56)]) := ⟨by rw [List.length_append, List.length_singleton]; omega, fun x hx => by
    rcases List.mem_append.1 hx with hx | hx
    · exact h.fit x hx
    · rw [List.mem_singleton.1 hx]; exact ret_fit⟩
  have e : (((check (q ++ l)).2 == 0) == ((check l).2 == 0)) = true := by
    rw [beq_iff_eq, Bool.eq_iff_iff, beq_iff_eq, beq_iff_eq, check_iff hqo, check_iff h]
    exact filter_append q hL (by omega)
  have er : tamislaw06_ret.f = some (6, 0, 0, 0) := rfl
  refine Ev.step (fun k => by rw [tamislaw06_VerifyMore.l0, if_neg (by omega), Option.bind_some, if_pos (by simp; omega), Option.bind_some, List.nil_append, if_pos (by omega)]) ?_
  refine Ev.bind (right_ev _ hqo) ?_
  refine Ev.bind (right_ev _ h) ?_
  refine Ev.congr (fun k => by rw [if_pos e]) ?_
  refine Ev.bind (right_ev _ h) ?_
  by_cases z : (check l).2 = 0
  · have H := (check_iff h).1 z
    refine Ev.congr (fun k => by rw [if_pos (beq_iff_eq.2 z), Option.bind_some, if_pos (by simp; omega), Option.bind_some, List.nil_append, er, Option.bind_some, if_pos (by omega)]) ?_
    have hc : (check (l ++ [(⟨6, 0, 0, 0⟩ : S56)])).2 = 0 := (check_iff hro).2 (filter_snoc h H (by omega) (by decide +kernel))
    refine Ev.bind (right_ev _ hro) ?_
    exact Ev.congr (fun k => by rw [hc]; rfl) (Ev.now true)
  · exact Ev.congr (fun k => by rw [if_neg (by simpa using z)]) (Ev.now _)

theorem more_loop (l : List S56) (h : Ok l) (hl : l.length ≤ 200) (a : List S56) (ha : a.length ≤ 50) (hao : Ok a) : ∀ (d i : Nat) (q : List S56), i + d = a.length → q.length ≤ i → (∀ x ∈ q, Loads x) → (∀ x ∈ q, Fit x) →
    Ev (fun k => tamislaw06_VerifyMore.l0 k l q a (a.length : Int) (i : Int)) true
  | 0, i, q, hi, hq, hL, hF => more_end l h hl q (by omega) hL hF a i (by omega)
  | d + 1, i, q, hi, hq, hL, hF => by
    have ew : wrap64 ((i : Int) + 1) = ((i + 1 : Nat) : Int) := by rw [ws _ (by omega) (by omega)]; omega
    have add : Loads (at_ a i) → Ev (fun k => if q.length < 17592186044416 then tamislaw06_VerifyMore.l0 k l (q ++ [at_ a i]) a (a.length : Int) ((i + 1 : Nat) : Int) else none) true := fun hx =>
      Ev.congr (fun k => by rw [if_pos (by omega)]) (more_loop l h hl a ha hao d (i + 1) (q ++ [at_ a i]) (by omega) (by rw [List.length_append, List.length_singleton]; omega)
        (fun x hm => by
          rcases List.mem_append.1 hm with hm | hm
          · exact hL x hm
          · rw [List.mem_singleton.1 hm]; exact hx)
        (fun x hm => by
          rcases List.mem_append.1 hm with hm | hm
          · exact hF x hm
          · rw [List.mem_singleton.1 hm]; exact hao.at_ i))
    refine Ev.step (fun k => by rw [tamislaw06_VerifyMore.l0, if_pos (by omega), if_pos (by omega), if_pos (by omega), rd_at, ew]) ?_
    refine Ev.bind (ref_kind (at_ a i).f0) ?_
    by_cases k3 : kindOf (at_ a i).f0 = 3
    · exact Ev.congr (fun k => by rw [if_pos k3]) (add (by unfold Loads; omega))
    refine Ev.congr (fun k => by rw [if_neg k3]) ?_
    by_cases k5 : kindOf (at_ a i).f0 = 5
    · exact Ev.congr (fun k => by rw [if_pos k5]) (add (by unfold Loads; omega))
    refine Ev.congr (fun k => by rw [if_neg k5]) ?_
    by_cases k2 : kindOf (at_ a i).f0 = 2
    · exact Ev.congr (fun k => by rw [if_pos k2]) (add (by unfold Loads; omega))
    refine Ev.congr (fun k => by rw [if_neg k2]) ?_
    by_cases k7 : kindOf (at_ a i).f0 = 7
    · exact Ev.congr (fun k => by rw [if_pos k7]) (add (by unfold Loads; omega))
    refine Ev.congr (fun k => by rw [if_neg k7]) ?_
    by_cases k15 : kindOf (at_ a i).f0 = 15
    · exact Ev.congr (fun k => by rw [if_pos k15]) (add (by unfold Loads; omega))
    refine Ev.congr (fun k => by rw [if_neg k15]) ?_
    by_cases k16 : kindOf (at_ a i).f0 = 16
    · exact Ev.congr (fun k => by rw [if_pos k16]) (add (by unfold Loads; omega))
    refine Ev.congr (fun k => by rw [if_neg k16]) ?_
    exact more_loop l h hl a ha hao d (i + 1) q (by omega) (by omega) hL hF

theorem VerifyMore (l : List S56) (hw : ∀ x ∈ l, Wf56 x) (a : List S56) (ha : ∀ x ∈ a, Wf56 x) : ∃ k, tamislaw06_VerifyMore.f k l a = some true := by
  apply Ev.rounds
  unfold tamislaw06_VerifyMore.f tamislaw06_awake.f
  refine Ev.congr (fun k => by rw [Option.bind_some, if_pos rfl]) ?_
  have out : ∀ f : Bool, f = true → Ev (fun k => tamislaw06_VerifyMore.j0 k l a f) true := fun f hf =>
    Ev.step (fun k => by rw [tamislaw06_VerifyMore.j0, if_pos hf, tamislaw06_awake.f, Option.bind_some]) (Ev.now _)
  by_cases c : (l.length : Int) > 200
  · exact Ev.congr (fun k => by rw [if_pos c]) (out true rfl)
  · refine Ev.congr (fun k => by rw [if_neg c]) ?_
    by_cases c2 : (a.length : Int) > 50
    · exact out _ (decide_eq_true c2)
    · refine Ev.step (fun k => by rw [tamislaw06_VerifyMore.j0, if_neg (by simpa using c2)]) ?_
      exact more_loop l (ok_of hw (by omega)) (by omega) a (by omega) (ok_of ha (by omega)) a.length 0 [] (by omega) (Nat.le_refl _) (fun x hx => by cases hx) (fun x hx => by cases hx)

end Go.Proofs.Ytmjpibeiglicdaa.Pure
