/- Plain laws of layer 23: the rounds, as the program and the document have them. -/
import Derived.Test.YtmjpibeiglicdaaEmitQ
import Derived.Test.YtmjpibeiglicdaaE6
namespace Go.Proofs.Ytmjpibeiglicdaa.EmitP
open Go.RowKit Go.Proofs.Ytmjpibeiglicdaa.E Go.Proofs.YtmjpibeiglicdaaU.PrintWords Go.Proofs.YtmjpibeiglicdaaU.PrintLast Go.Proofs.YtmjpibeiglicdaaU.PrintMore
open Go.Proofs.Ytmjpibeiglicdaa.EmitB
open Go.Proofs.Ytmjpibeiglicdaa.RefE (ws wn marked_ev)

theorem far_range2 {l : List S40} (hF : Fine l) (ls : List Bool) {i : Nat} (hi : i < l.length) :
    wrap64 (wrap64 (mx (placeAt l ls (lastP l (at_ l i).f3)) (placeAt l ls (lastP l (at_ l i).f4)) - placeAt l ls i) - 1) = farM l ls i := by
  have h0 := hF.len
  have a := place_range l ls (lastP l (at_ l i).f3)
  have b := place_range l ls (lastP l (at_ l i).f4)
  have c := place_range l ls i
  have a1 := (last_p l (at_ l i).f3 hF.pos).2
  have b1 := (last_p l (at_ l i).f4 hF.pos).2
  unfold farM
  have m1 : mx (placeAt l ls (lastP l (at_ l i).f3)) (placeAt l ls (lastP l (at_ l i).f4)) ≤ 300000 := by unfold mx; split <;> omega
  have m0 : 0 ≤ mx (placeAt l ls (lastP l (at_ l i).f3)) (placeAt l ls (lastP l (at_ l i).f4)) := by unfold mx; split <;> omega
  rw [ws (mx _ _ - _) (by omega) (by omega), ws _ (by omega) (by omega)]
/-- The loop through the items within a round. -/
theorem round_loop {l : List S40} (hF : Fine l) {ls : List Bool} (hls : ls.length = l.length) (x4 : Nat) (hx4 : x4 ≤ 65536) (R : List Bool)
    (hm : moreF l (places l ls) ls l.length = true → Ev (fun k => tamisref23_Long.l0 k (l.map toI) (growF l (places l ls) ls l.length) ((x4 + 1 : Nat) : Int)) R)
    (he : moreF l (places l ls) ls l.length = false → R = ls) :
    ∀ d i, i + d = l.length → Ev (fun k => tamisref23_Long.l1 k (l.map toI) (growF l (places l ls) ls i) (x4 : Int) (allP l ls) (moreF l (places l ls) ls i) (i : Int)) R
  | 0, i, hi => by
    have hi : i = l.length := by omega
    subst hi
    cases c : moreF l (places l ls) ls l.length with
    | true => exact Ev.step (fun k => by rw [tamisref23_Long.l1, List.length_map, if_neg (by omega), if_pos rfl, wn _ (by omega)]) (hm c)
    | false =>
      rw [he c, grow_same l _ ls _ c]
      exact Ev.step (fun k => by rw [tamisref23_Long.l1, List.length_map, if_neg (by omega), if_neg (by decide)]) (Ev.now _)
  | d + 1, i, hi => by
    have hl := hF.len
    have hilt : i < l.length := by omega
    have ih := round_loop hF hls x4 hx4 R hm he d (i + 1) (by omega)
    have hgl : (growF l (places l ls) ls i).length = l.length := by rw [grow_len]; exact hls
    have keep : tooFar l (places l ls) ls i = false → growF l (places l ls) ls (i + 1) = growF l (places l ls) ls i ∧ moreF l (places l ls) ls (i + 1) = moreF l (places l ls) ls i := fun h => by
      rw [growF, moreF, if_neg (by rw [h]; decide), h, Bool.or_false]; exact ⟨rfl, rfl⟩
    refine Ev.step (fun k => by rw [tamisref23_Long.l1, List.length_map, if_pos (by omega), if_pos (by omega), rd_i]) ?_
    have skip : tooFar l (places l ls) ls i = false → Ev (fun k => tamisref23_Long.j2 k (l.map toI) (growF l (places l ls) ls i) (x4 : Int) (allP l ls) (moreF l (places l ls) ls i) (i : Int) true) R := fun h => by
      obtain ⟨k1, k2⟩ := keep h
      rw [k1, k2] at ih
      exact Ev.step (fun k => by rw [tamisref23_Long.j2, if_pos rfl, wn i (by omega)]) ih
    by_cases c3 : (at_ l i).f0 = 3
    · refine Ev.congr (fun k => by rw [if_pos (show (toI (at_ l i)).f0 = 3 from c3), if_pos (by omega), rdOf_n, grow_later l (places l ls) ls i i (Nat.le_refl _)]) ?_
      cases cb : ls.getD i false with
      | true => exact skip (by rw [too_eq hF ls hilt, cb]; simp)
      | false =>
        obtain ⟨p1, p2, p3, _⟩ := hF.place ((hF.each i hilt).yes (.inr c3))
        obtain ⟨q1, q2, q3, _⟩ := hF.place ((hF.each i hilt).no c3)
        have M1 := marked_ev (l.map toI) (at_ l i).f3 i (by rw [List.length_map]; omega) (by rw [List.length_map]; omega)
        have M2 := marked_ev (l.map toI) (at_ l i).f4 i (by rw [List.length_map]; omega) (by rw [List.length_map]; omega)
        rw [p1] at M1
        rw [q1] at M2
        refine Ev.step (fun k => by rw [tamisref23_Long.j2, if_neg (by decide), List.length_map, if_pos (by omega), if_pos (by omega), rd_i]) ?_
        refine Ev.bind M1 ?_
        refine Ev.congr (fun k => by rw [all_len, if_pos (by omega), if_pos (by omega)]) ?_
        refine Ev.bind M2 ?_
        refine Ev.congr (fun k => by
          rw [if_pos (by omega), if_pos (by omega), if_pos (by omega), rd_n, rd_n, rd_n, all_get l ls _ (by omega), all_get l ls _ (by omega), all_get l ls _ (by omega), far_range2 hF ls hilt]) ?_
        by_cases cf : farM l ls i > 255
        · have ht : tooFar l (places l ls) ls i = true := (too_iff hF ls hilt).2 ⟨c3, cb, cf⟩
          rw [growF, moreF, if_pos ht, ht, Bool.or_true] at ih
          exact Ev.congr (fun k => by rw [if_pos cf, if_pos (by omega), Int.toNat_natCast, wn i (by omega)]) ih
        · have ht : tooFar l (places l ls) ls i = false := by
            rw [too_eq hF ls hilt, decide_eq_false cf]; simp
          obtain ⟨k1, k2⟩ := keep ht
          rw [k1, k2] at ih
          exact Ev.congr (fun k => by rw [if_neg cf, wn i (by omega)]) ih
    · refine Ev.congr (fun k => by rw [if_neg (show ¬ (toI (at_ l i)).f0 = 3 from c3)]) ?_
      exact skip (by rw [too_eq hF ls hilt, decide_eq_false c3]; simp)
theorem rounds {l : List S40} (hF : Fine l) : ∀ (d : Nat) (ls : List Bool) (x4 : Nat), ls.length = l.length → l.length ≤ cnt ls l.length + d → x4 ≤ cnt ls l.length → Need l ls →
    ∃ R, Done l R ∧ Ev (fun k => roundF l k ls) R ∧ Ev (fun k => tamisref23_Long.l0 k (l.map toI) ls (x4 : Int)) R := by
  have hl := hF.len
  intro d
  induction d with
  | zero =>
    intro ls x4 hls hc hx hn
    have hcl := cnt_le ls l.length
    have hm : moreF l (places l ls) ls l.length = false := by
      cases c : moreF l (places l ls) ls l.length with
      | false => rfl
      | true =>
        obtain ⟨j, hj, ht⟩ := (more_iff l (places l ls) ls l.length).1 c
        have G := fun j => grow_get l (places l ls) ls j l.length (by omega)
        have := cnt_lt (ls' := growF l (places l ls) ls l.length) (fun j h => (G j).2 (.inl h)) ((too_iff hF ls hj).1 ht).2.1 ((G j).2 (.inr ⟨hj, ht⟩)) l.length hj
        have := cnt_le (growF l (places l ls) ls l.length) l.length
        omega
    have H := round_loop hF hls x4 (by omega) ls (fun h => by rw [hm] at h; cases h) (fun _ => rfl) l.length 0 (by omega)
    refine ⟨ls, ⟨hls, hn, hm⟩, Ev.step (fun k => by rw [roundF, if_neg (by rw [hm]; decide)]) (Ev.now _), ?_⟩
    refine Ev.step (fun k => by rw [tamisref23_Long.l0, List.length_map, if_pos (by omega)]) ?_
    exact Ev.bind (places_ev l ls hl hls) H
  | succ d ih =>
    intro ls x4 hls hc hx hn
    have hcl := cnt_le ls l.length
    cases hm : moreF l (places l ls) ls l.length with
    | false =>
      have H := round_loop hF hls x4 (by omega) ls (fun h => by rw [hm] at h; cases h) (fun _ => rfl) l.length 0 (by omega)
      refine ⟨ls, ⟨hls, hn, hm⟩, Ev.step (fun k => by rw [roundF, if_neg (by rw [hm]; decide)]) (Ev.now _), ?_⟩
      refine Ev.step (fun k => by rw [tamisref23_Long.l0, List.length_map, if_pos (by omega)]) ?_
      exact Ev.bind (places_ev l ls hl hls) H
    | true =>
      obtain ⟨j, hj, ht⟩ := (more_iff l (places l ls) ls l.length).1 hm
      have G := fun j => grow_get l (places l ls) ls j l.length (by omega)
      have hlt := cnt_lt (ls' := growF l (places l ls) ls l.length) (fun j h => (G j).2 (.inl h)) ((too_iff hF ls hj).1 ht).2.1 ((G j).2 (.inr ⟨hj, ht⟩)) l.length hj
      obtain ⟨R, hD, hR, hL⟩ := ih (growF l (places l ls) ls l.length) (x4 + 1) (by rw [grow_len]; exact hls) (by omega) (by omega) (need_grow hF hls hn)
      have H := round_loop hF hls x4 (by omega) R (fun _ => hL) (fun h => by rw [hm] at h; cases h) l.length 0 (by omega)
      refine ⟨R, hD, Ev.step (fun k => by rw [roundF, if_pos hm]) hR, ?_⟩
      refine Ev.step (fun k => by rw [tamisref23_Long.l0, List.length_map, if_pos (by omega)]) ?_
      exact Ev.bind (places_ev l ls hl hls) H
theorem long_ev {l : List S40} (hF : Fine l) : ∃ R, Done l R ∧ Ev (fun k => roundF l k (EmitB.start l)) R ∧ Ev (fun k => tamisref23_Long.f k (l.map toI)) R := by
  have hl := hF.len
  have hst : ∀ j, (EmitB.start l).getD j false = false := fun j => by
    unfold EmitB.start
    rw [List.getD_eq_getElem?_getD, List.getElem?_replicate]
    split <;> rfl
  have e : EmitB.start l = List.replicate l.length false := rfl
  obtain ⟨R, hD, hR, hL⟩ := rounds hF l.length (EmitB.start l) 0 (by rw [e, List.length_replicate]) (by omega) (Nat.zero_le _) (fun i _ h => by rw [hst] at h; cases h)
  refine ⟨R, hD, hR, ?_⟩
  unfold tamisref23_Long.f
  exact Ev.congr (fun k => by rw [List.length_map, if_pos (by omega), Int.toNat_natCast, if_pos (by omega)]; rfl) hL
end Go.Proofs.Ytmjpibeiglicdaa.EmitP
