/- VerifyChecks: a program is a filter just if the document says so; else the first that isn't right, and why, are the document's; for every program. -/
import Derived.Test.YtmjpibeiglicdaaVerC
import Derived.Test.YtmjpibeiglicdaaX10
import Derived.Test.YtmjpibeiglicdaaArgs
namespace Go.Proofs.Ytmjpibeiglicdaa.Pure
open Go.RowKit Go.Proofs.Ytmjpibeiglicdaa.X Go.Proofs.Ytmjpibeiglicdaa.Ver Go.Proofs.YtmjpibeiglicdaaW.PrintWords Go.Proofs.YtmjpibeiglicdaaW.PrintLast Go.Proofs.YtmjpibeiglicdaaW.PrintMore

theorem fit_of {x : S56} (h : Wf56 x) : Fit x := by
  obtain ⟨h0, h1, h2, h3⟩ := h
  have a := u16_of h0
  have b := u8_of h1
  have c := u8_of h2
  have d := u32_of h3
  exact ⟨a.1, a.2, b.1, b.2, c.1, c.2, d.1, d.2⟩
theorem ok_of {l : List S56} (h : ∀ x ∈ l, Wf56 x) (hl : l.length ≤ 10000) : Ok l := ⟨hl, fun x hx => fit_of (h x hx)⟩
theorem awake_ev {b : Bool} (h : b = true) : Ev (fun _ : Nat => (tamislaw06_awake.f).bind fun t => some t) b := by
  rw [h]; exact Ev.now _

theorem checks_loop (l : List S56) (h : Ok l) : ∀ d i, i + d = l.length → Ev (fun k => tamislaw06_VerifyChecks.l0 k l (l.length : Int) (i : Int)) true
  | 0, i, hi => by
    refine Ev.step (fun k => by rw [tamislaw06_VerifyChecks.l0, if_neg (by omega)]) ?_
    refine Ev.bind (local_out l (-1) (.inl (by decide))) ?_
    refine Ev.congr (fun k => by rw [if_pos rfl]) ?_
    exact Ev.bind (local_out l (l.length : Int) (.inr (Int.le_refl _))) (Ev.now _)
  | d + 1, i, hi => by
    have ih := checks_loop l h d (i + 1) (by omega)
    have ew : wrap64 ((i : Int) + 1) = ((i + 1 : Nat) : Int) := by have := h.len; rw [ws _ (by omega) (by omega)]; omega
    refine Ev.step (fun k => by rw [tamislaw06_VerifyChecks.l0, if_pos (by omega)]) ?_
    refine Ev.bind (local_ev l h i (by omega)) ?_
    refine Ev.bind (ref_local_ev l h i (by omega)) ?_
    exact Ev.congr (fun k => by rw [if_pos rfl, ew]) ih

theorem VerifyChecks (l : List S56) (hw : ∀ x ∈ l, Wf56 x) : ∃ k, tamislaw06_VerifyChecks.f k l = some true := by
  apply Ev.rounds
  unfold tamislaw06_VerifyChecks.f tamislaw06_awake.f
  refine Ev.congr (fun k => by rw [Option.bind_some, if_pos rfl]) ?_
  by_cases c : (l.length : Int) > 300
  · exact Ev.step (fun k => by rw [tamislaw06_VerifyChecks.j0, if_pos (decide_eq_true c), tamislaw06_awake.f, Option.bind_some]) (Ev.now _)
  · have h : Ok l := ok_of hw (by omega)
    refine Ev.step (fun k => by rw [tamislaw06_VerifyChecks.j0, if_neg (by simpa using c), Option.bind_some, if_pos (by simp; omega), List.nil_append]) ?_
    refine Ev.bind (check_ev l h) ?_
    refine Ev.bind (ref_check_ev l h) ?_
    refine Ev.congr (fun k => by rw [if_pos rfl, if_pos rfl]) ?_
    refine Ev.bind (right_ev l h) ?_
    refine Ev.step (fun k => by rw [tamislaw06_VerifyChecks.j1, if_neg (by simp)]) ?_
    exact checks_loop l h l.length 0 (by omega)

end Go.Proofs.Ytmjpibeiglicdaa.Pure
