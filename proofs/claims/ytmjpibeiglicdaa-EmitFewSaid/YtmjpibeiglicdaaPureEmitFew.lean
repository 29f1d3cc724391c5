/- EmitFew: a question is long if and only if it must be; for all items. -/
import Derived.Test.YtmjpibeiglicdaaPureEmitTells
import Derived.Test.YtmjpibeiglicdaaE9
namespace Go.Proofs.Ytmjpibeiglicdaa.Pure
open Go.RowKit Go.Proofs.Ytmjpibeiglicdaa.E Go.Proofs.YtmjpibeiglicdaaU.PrintWords Go.Proofs.YtmjpibeiglicdaaU.PrintLast Go.Proofs.YtmjpibeiglicdaaU.PrintMore
open Go.Proofs.Ytmjpibeiglicdaa.EmitB (wfB chk places placeAt lastP at_)
open Go.Proofs.Ytmjpibeiglicdaa.EmitP
open Go.Proofs.Ytmjpibeiglicdaa.RefE (ws wn check_ev marked_ev)

theorem few_loop {l : List S40} (hF : Fine l) {R : List Bool} (hD : Done l R) : ∀ d i, i + d = l.length → Ev (fun k => tamislaw23_EmitFew.l0 k (l.map toI) R (l.map toI) ((l.map toI).length : Int) (i : Int)) true
  | 0, i, hi => Ev.step (fun k => by rw [tamislaw23_EmitFew.l0, List.length_map, if_neg (by omega)]) (Ev.now _)
  | d + 1, i, hi => by
    have hl := hF.len
    have hilt : i < l.length := by omega
    have ih := few_loop hF hD d (i + 1) (by omega)
    have hR : R.length = l.length := hD.len
    refine Ev.step (fun k => by rw [tamislaw23_EmitFew.l0, List.length_map, if_pos (by omega), if_pos (by omega), if_pos (by omega), rd_i]) ?_
    rw [List.length_map] at ih
    by_cases c3 : (at_ l i).f0 = 3
    · obtain ⟨p1, p2, p3, _⟩ := hF.place ((hF.each i hilt).yes (.inr c3))
      obtain ⟨q1, q2, q3, _⟩ := hF.place ((hF.each i hilt).no c3)
      have M1 := marked_ev (l.map toI) (at_ l i).f3 i (by rw [List.length_map]; omega) (by rw [List.length_map]; omega)
      have M2 := marked_ev (l.map toI) (at_ l i).f4 i (by rw [List.length_map]; omega) (by rw [List.length_map]; omega)
      rw [p1] at M1
      rw [q1] at M2
      have hask := hD.ask hF hilt c3
      have hpl := places_ev l (R.set i false) hl (by rw [List.length_set]; exact hR)
      refine Ev.congr (fun k => by rw [if_pos (show (toI (at_ l i)).f0 = 3 from c3), Option.bind_some, if_pos (by simp only [List.length_nil]; omega), Option.bind_some, List.nil_append, if_pos (by omega), Int.toNat_natCast]) ?_
      refine Ev.bind hpl ?_
      refine Ev.bind M1 ?_
      refine Ev.congr (fun k => by rw [all_len, if_pos (by omega), if_pos (by omega)]) ?_
      refine Ev.bind M2 ?_
      refine Ev.congr (fun k => by
        rw [if_pos (by omega), if_pos (by omega), if_pos (by omega), if_pos (by omega), rd_n, rd_n, rd_n, rdOf_n, all_get l _ _ (by omega), all_get l _ _ (by omega), all_get l _ _ (by omega), far_range2 hF _ hilt, hask, if_neg (by simp), wn i (by omega)]) ?_
      exact ih
    · have h0 := hD.short hilt c3
      exact Ev.congr (fun k => by rw [if_neg (show ¬ (toI (at_ l i)).f0 = 3 from c3), if_pos (by omega), rdOf_n, h0, if_neg (by decide), wn i (by omega)]) ih

theorem EmitFew (l : List S40) (hw : ∀ x ∈ l, Wf40 x) : ∃ k, tamislaw23_EmitFew.f k l = some true := by
  apply Ev.rounds
  unfold tamislaw23_EmitFew.f
  refine Ev.congr (fun k => by rw [awakeE, Option.bind_some, if_pos rfl]) ?_
  by_cases c : (l.length : Int) > 700
  · exact Ev.step (fun k => by rw [tamislaw23_EmitFew.j0, if_pos (decide_eq_true c), awakeE]; rfl) (Ev.now true)
  have hB := wfB_of hw
  refine Ev.step (fun k => by rw [tamislaw23_EmitFew.j0, if_neg (by simpa using c)]) ?_
  refine Ev.bind (Own_ev l (by omega)) ?_
  refine Ev.bind (refcheck_ev l (by omega)) ?_
  by_cases z : (chk l).2 = 0
  · have hF := (fine_iff l).1 z
    obtain ⟨R, hD, hR, hL⟩ := long_ev hF
    obtain ⟨e1, e2, e3⟩ := prog_fine hB hF hR
    refine Ev.congr (fun k => by rw [if_pos z]) ?_
    refine Ev.bind e1 ?_
    refine Ev.congr (fun k => by rw [if_pos rfl]) ?_
    refine Ev.step (fun k => by rw [tamislaw23_EmitFew.j1, if_neg (by simp [hD.len])]) ?_
    exact few_loop hF hD l.length 0 (by omega)
  · exact Ev.congr (fun k => by rw [if_neg z]) (Ev.now _)
end Go.Proofs.Ytmjpibeiglicdaa.Pure
