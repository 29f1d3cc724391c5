/- VerifyWritten: which words are written for sure ahead of each is the document's; for every program. -/
import Derived.Test.YtmjpibeiglicdaaVerC
import Derived.Test.YtmjpibeiglicdaaX10
import Derived.Test.YtmjpibeiglicdaaArgs
namespace Go.Proofs.Ytmjpibeiglicdaa.Pure
open Go.RowKit Go.Proofs.Ytmjpibeiglicdaa.X Go.Proofs.Ytmjpibeiglicdaa.Ver Go.Proofs.YtmjpibeiglicdaaW.PrintWords Go.Proofs.YtmjpibeiglicdaaW.PrintLast Go.Proofs.YtmjpibeiglicdaaW.PrintMore

theorem fit_of {x : S56} (h : Wf56 x) : Fit x := by
  obtain ⟨h0, h1, h2, h3⟩ := h
  have a := u16_of h0
  have b := u8_of h1
  have c := u8_of h2
  have d := u32_of h3
  exact ⟨a.1, a.2, b.1, b.2, c.1, c.2, d.1, d.2⟩
theorem ok_of {l : List S56} (h : ∀ x ∈ l, Wf56 x) (hl : l.length ≤ 10000) : Ok l := ⟨hl, fun x hx => fit_of (h x hx)⟩

theorem same_loop (A : List Int) (hA : A.length ≤ 10000) : ∀ d i, i + d = A.length → Ev (fun k => tamislaw06_VerifyWritten.l0 k A A (A.length : Int) (i : Int)) true
  | 0, i, hi => Ev.step (fun k => by rw [tamislaw06_VerifyWritten.l0, if_neg (by omega)]) (Ev.now _)
  | d + 1, i, hi => by
    have ih := same_loop A hA d (i + 1) (by omega)
    have ew : wrap64 ((i : Int) + 1) = ((i + 1 : Nat) : Int) := by rw [ws _ (by omega) (by omega)]; omega
    exact Ev.step (fun k => by rw [tamislaw06_VerifyWritten.l0, if_pos (by omega), if_pos (by omega), if_pos (by omega), if_pos (by omega), if_pos rfl, ew]) ih

theorem VerifyWritten (l : List S56) (hw : ∀ x ∈ l, Wf56 x) : ∃ k, tamislaw06_VerifyWritten.f k l = some true := by
  apply Ev.rounds
  unfold tamislaw06_VerifyWritten.f tamislaw06_awake.f
  refine Ev.congr (fun k => by rw [Option.bind_some, if_pos rfl]) ?_
  by_cases c : (l.length : Int) > 150
  · exact Ev.step (fun k => by rw [tamislaw06_VerifyWritten.j0, if_pos (decide_eq_true c), tamislaw06_awake.f, Option.bind_some]) (Ev.now _)
  · have h : Ok l := ok_of hw (by omega)
    have hl : (Ver.written l).length ≤ 10000 := by
      by_cases z : (whole l).2 = 0
      · rw [written_len z]; exact h.len
      · have e : Ver.written l = [] := if_neg z
        rw [e]; decide
    refine Ev.step (fun k => by rw [tamislaw06_VerifyWritten.j0, if_neg (by simpa using c)]) ?_
    refine Ev.bind (written_ev l h) ?_
    refine Ev.bind (ref_written_ev l h) ?_
    refine Ev.congr (fun k => by rw [if_pos rfl]) ?_
    exact same_loop (Ver.written l) hl (Ver.written l).length 0 (by omega)

end Go.Proofs.Ytmjpibeiglicdaa.Pure
