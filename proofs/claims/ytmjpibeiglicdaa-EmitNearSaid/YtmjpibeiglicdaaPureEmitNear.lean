/- EmitNear: where no label can be too far away, each item but a mark is one instruction. -/
import Derived.Test.YtmjpibeiglicdaaPureEmitTells
import Derived.Test.YtmjpibeiglicdaaE10
namespace Go.Proofs.Ytmjpibeiglicdaa.Pure
open Go.RowKit Go.Proofs.Ytmjpibeiglicdaa.E Go.Proofs.YtmjpibeiglicdaaU.PrintWords Go.Proofs.YtmjpibeiglicdaaU.PrintLast Go.Proofs.YtmjpibeiglicdaaU.PrintMore
open Go.Proofs.Ytmjpibeiglicdaa.EmitB (wfB chk places placeAt lastP at_ putL moreF roundF width)
open Go.Proofs.Ytmjpibeiglicdaa.EmitP
open Go.Proofs.Ytmjpibeiglicdaa.RefE (ws wn check_ev marked_ev)

theorem start_false (l : List S40) (j : Nat) : (EmitB.start l).getD j false = false := by
  unfold EmitB.start
  rw [List.getD_eq_getElem?_getD, List.getElem?_replicate]
  split <;> rfl
theorem near_place (l : List S40) {ls : List Bool} (h : ∀ j, ls.getD j false = false) : ∀ i, placeAt l ls i ≤ i
  | 0 => Int.le_refl _
  | i + 1 => by
    have a := near_place l h i
    have b : width l ls i ≤ 1 := by
      unfold width
      rw [h]
      split <;> simp
    rw [placeAt]; omega
theorem near_more {l : List S40} (hF : Fine l) (hl : l.length ≤ 250) : moreF l (places l (EmitB.start l)) (EmitB.start l) l.length = false := by
  cases c : moreF l (places l (EmitB.start l)) (EmitB.start l) l.length with
  | false => rfl
  | true =>
    obtain ⟨j, hj, ht⟩ := (more_iff l _ _ l.length).1 c
    obtain ⟨_, _, hf⟩ := (too_iff hF _ hj).1 ht
    have a := near_place l (start_false l) (lastP l (at_ l j).f3)
    have b := near_place l (start_false l) (lastP l (at_ l j).f4)
    have a1 := (EmitB.last_p l (at_ l j).f3 hF.pos).2
    have b1 := (EmitB.last_p l (at_ l j).f4 hF.pos).2
    have p := EmitB.place_range l (EmitB.start l) j
    unfold farM mx at hf
    exfalso
    split at hf <;> omega
theorem near_done {l : List S40} (hF : Fine l) (hl : l.length ≤ 250) : Done l (EmitB.start l) ∧ Ev (fun k => roundF l k (EmitB.start l)) (EmitB.start l) :=
  ⟨⟨by unfold EmitB.start; rw [List.length_replicate], fun i _ h => (by rw [start_false] at h; cases h), near_more hF hl⟩, Ev.step (fun k => by rw [roundF, if_neg (by rw [near_more hF hl]; decide)]) (Ev.now _)⟩
theorem put_split (l : List S40) (ps : List Int) (ls : List Bool) : ∀ d i, ∃ rest, EmitB.putAll l ps ls (i + d) = EmitB.putAll l ps ls i ++ rest
  | 0, i => ⟨[], by simp⟩
  | d + 1, i => by
    obtain ⟨r, hr⟩ := put_split l ps ls d i
    exact ⟨r ++ putL l ps ls (i + d), by rw [← Nat.add_assoc, EmitB.putAll, hr, List.append_assoc]⟩
/-- The instruction that an item puts out. -/
theorem put_at {l : List S40} (ps : List Int) (ls : List Bool) {i : Nat} (hi : i < l.length) {x : S56} (hx : putL l ps ls i = [x]) :
    (EmitB.putAll l ps ls i).length < (EmitB.putAll l ps ls l.length).length ∧ (EmitB.putAll l ps ls l.length).getD (EmitB.putAll l ps ls i).length z56 = x := by
  obtain ⟨r, hr⟩ := put_split l ps ls (l.length - (i + 1)) (i + 1)
  rw [show i + 1 + (l.length - (i + 1)) = l.length by omega, EmitB.putAll, hx] at hr
  rw [hr]
  constructor
  · simp only [List.length_append, List.length_cons]; omega
  · rw [List.getD_eq_getElem?_getD, List.append_assoc, List.getElem?_append_right (Nat.le_refl _), Nat.sub_self]; rfl
theorem rd_40 (l : List S40) (i : Nat) : rd_T40 l (i : Int) = at_ l i := by simp [rd_T40, at_]
theorem rd_56 (l : List S56) (i : Nat) : rd_T56 l (i : Int) = l.getD i z56 := by simp [rd_T56]
theorem near_loop {l : List S40} (hF : Fine l) {ls : List Bool} (h : ∀ j, ls.getD j false = false) (ps : List Int) : ∀ d i, i + d = l.length →
    Ev (fun k => tamislaw23_EmitNear.l0 k (EmitB.putAll l ps ls l.length) 0 ((EmitB.putAll l ps ls i).length : Int) l (l.length : Int) (i : Int)) true
  | 0, i, hi => by
    have hi : i = l.length := by omega
    subst hi
    exact Ev.step (fun k => by rw [tamislaw23_EmitNear.l0, if_neg (by omega), if_pos rfl, beq_self_eq_true]) (Ev.now _)
  | d + 1, i, hi => by
    have hl := hF.len
    have hilt : i < l.length := by omega
    have ih := near_loop hF h ps d (i + 1) (by omega)
    have hlen := EmitB.put_len l ps ls i
    rw [EmitB.putAll] at ih
    refine Ev.step (fun k => by rw [tamislaw23_EmitNear.l0, if_pos (by omega), if_pos (by omega), if_pos (by omega), rd_40]) ?_
    have hk := kinds (hF.each i hilt).form
    by_cases c4 : (at_ l i).f0 = 4
    · have e : putL l ps ls i = [] := by unfold EmitB.putL; rw [if_neg (by omega), if_neg (by omega), if_pos c4]
      rw [e, List.append_nil] at ih
      exact Ev.congr (fun k => by rw [if_pos c4, wn i (by omega)]) ih
    refine Ev.congr (fun k => by rw [if_neg c4]) ?_
    by_cases c2 : (at_ l i).f0 = 2
    · obtain ⟨x, hx, hx0⟩ : ∃ x, putL l ps ls i = [x] ∧ x.f0 = 5 := ⟨_, by unfold EmitB.putL; rw [if_neg (by omega), if_pos c2], rfl⟩
      obtain ⟨g1, g2⟩ := put_at ps ls hilt hx
      rw [hx, List.length_append, List.length_cons, List.length_nil] at ih
      exact Ev.congr (fun k => by rw [if_neg (by omega), if_pos c2, if_pos (by omega), if_pos (by omega), rd_56, g2, if_pos hx0, wn i (by omega), wn _ (by omega)]) ih
    · obtain ⟨x, hx, hx0⟩ : ∃ x, putL l ps ls i = [x] ∧ x.f0 = (at_ l i).f1 := by
        unfold EmitB.putL
        by_cases c1 : (at_ l i).f0 = 1
        · rw [if_pos c1]; exact ⟨_, rfl, rfl⟩
        · rw [if_neg c1, if_neg c2, if_neg c4, if_pos (h i)]; exact ⟨_, rfl, rfl⟩
      obtain ⟨g1, g2⟩ := put_at ps ls hilt hx
      rw [hx, List.length_append, List.length_cons, List.length_nil] at ih
      exact Ev.congr (fun k => by rw [if_neg (by omega), if_neg c2, if_pos (by omega), if_pos (by omega), rd_56, g2, if_pos hx0, wn i (by omega), wn _ (by omega)]) ih

theorem EmitNear (l : List S40) (hw : ∀ x ∈ l, Wf40 x) : ∃ k, tamislaw23_EmitNear.f k l = some true := by
  apply Ev.rounds
  unfold tamislaw23_EmitNear.f
  refine Ev.congr (fun k => by rw [awakeE, Option.bind_some, if_pos rfl]) ?_
  by_cases c : (l.length : Int) > 250
  · exact Ev.step (fun k => by rw [tamislaw23_EmitNear.j0, if_pos (decide_eq_true c), awakeE]; rfl) (Ev.now true)
  have hB := wfB_of hw
  refine Ev.step (fun k => by rw [tamislaw23_EmitNear.j0, if_neg (by simpa using c)]) ?_
  refine Ev.bind (Own_ev l (by omega)) ?_
  refine Ev.bind (refcheck_ev l (by omega)) ?_
  by_cases z : (chk l).2 = 0
  · have hF := (fine_iff l).1 z
    obtain ⟨hD, hR⟩ := near_done hF (by omega)
    obtain ⟨e1, e2, e3⟩ := prog_fine hB hF hR
    rw [if_neg (by have := near_place l (start_false l) l.length; omega)] at e3
    refine Ev.congr (fun k => by rw [if_pos z]) ?_
    refine Ev.bind e3 ?_
    exact near_loop hF (start_false l) _ l.length 0 (by omega)
  · exact Ev.congr (fun k => by rw [if_neg z]) (Ev.now _)
end Go.Proofs.Ytmjpibeiglicdaa.Pure
