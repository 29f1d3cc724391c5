/- Plain laws of layer 23: what is put out, as the program and the document have it. -/
import Derived.Test.YtmjpibeiglicdaaEmitR
import Derived.Test.YtmjpibeiglicdaaE7
namespace Go.Proofs.Ytmjpibeiglicdaa.EmitP
open Go.RowKit Go.Proofs.Ytmjpibeiglicdaa.E Go.Proofs.YtmjpibeiglicdaaU.PrintWords Go.Proofs.YtmjpibeiglicdaaU.PrintLast Go.Proofs.YtmjpibeiglicdaaU.PrintMore
open Go.Proofs.Ytmjpibeiglicdaa.EmitB
open Go.Proofs.Ytmjpibeiglicdaa.RefE (ws wn marked_ev)

theorem put_width {l : List S40} {R : List Bool} (hD : Done l R) (ps : List Int) {i : Nat} (hi : i < l.length) : ((putL l ps R i).length : Int) = width l R i := by
  unfold putL width
  by_cases c3 : (at_ l i).f0 = 3
  · rw [if_neg (show ¬ (at_ l i).f0 = 1 by omega), if_neg (show ¬ (at_ l i).f0 = 2 by omega), if_neg (show ¬ (at_ l i).f0 = 4 by omega), if_neg (show ¬ (at_ l i).f0 = 4 by omega)]
    cases R.getD i false <;> rfl
  · have h0 := hD.short hi c3
    rw [h0]
    by_cases c1 : (at_ l i).f0 = 1
    · rw [if_pos c1, if_neg (by omega), if_neg (by decide)]; rfl
    · rw [if_neg c1]
      by_cases c2 : (at_ l i).f0 = 2
      · rw [if_pos c2, if_neg (by omega), if_neg (by decide)]; rfl
      · rw [if_neg c2]
        by_cases c4 : (at_ l i).f0 = 4
        · rw [if_pos c4, if_pos c4]; rfl
        · rw [if_neg c4, if_neg c4, if_pos rfl, if_neg (by decide)]; rfl
theorem put_place {l : List S40} {R : List Bool} (hD : Done l R) (ps : List Int) : ∀ i, i ≤ l.length → ((EmitB.putAll l ps R i).length : Int) = placeAt l R i
  | 0, _ => rfl
  | i + 1, hi => by
    have a := put_place hD ps i (by omega)
    have b := put_width hD ps (i := i) (by omega)
    rw [EmitB.putAll, placeAt, List.length_append]; omega
theorem kinds {x : S40} (h : formedB x = true) : x.f0 = 1 ∨ x.f0 = 2 ∨ x.f0 = 3 ∨ x.f0 = 4 := by
  unfold formedB at h
  simp only [Bool.or_eq_true, Bool.and_eq_true, decide_eq_true_eq] at h
  omega
theorem far_wrap {l : List S40} (hF : Fine l) (ls : List Bool) {i p : Nat} (hi : i < l.length) (hp : p < l.length) (c : Int) (h0 : 0 ≤ c) (h1 : c ≤ 2) :
    wrap64 (wrap64 (placeAt l ls p - placeAt l ls i) - 1) = placeAt l ls p - placeAt l ls i - 1 ∧ wrap64 (placeAt l ls p - placeAt l ls i - 1 - c) = placeAt l ls p - placeAt l ls i - 1 - c := by
  have := hF.len
  have a := place_range l ls p
  have b := place_range l ls i
  rw [ws (placeAt l ls p - placeAt l ls i) (by omega) (by omega), ws (placeAt l ls p - placeAt l ls i - 1) (by omega) (by omega), ws (placeAt l ls p - placeAt l ls i - 1 - c) (by omega) (by omega)]
  exact ⟨rfl, rfl⟩
theorem emit_loop {l : List S40} (hF : Fine l) {R : List Bool} (hD : Done l R) : ∀ d i, i + d = l.length → Ev (fun k => tamisref23_Emit.l0 k (l.map toI) R (allP l R) (EmitB.putAll l (places l R) R i) (i : Int)) (EmitB.putAll l (places l R) R l.length)
  | 0, i, hi => by
    have hi : i = l.length := by omega
    subst hi
    exact Ev.step (fun k => by rw [tamisref23_Emit.l0, List.length_map, if_neg (by omega)]) (Ev.now _)
  | d + 1, i, hi => by
    have hl := hF.len
    have hilt : i < l.length := by omega
    have ih := emit_loop hF hD d (i + 1) (by omega)
    have hpl := put_len l (places l R) R i
    have hb : (EmitB.putAll l (places l R) R i).length ≤ 200000 := by omega
    rw [EmitB.putAll] at ih
    unfold putL at ih
    have hR : R.length = l.length := hD.len
    rw [far_eq hF R hilt, far_eq hF R hilt] at ih
    generalize EmitB.putAll l (places l R) R i = x5 at *
    refine Ev.step (fun k => by rw [tamisref23_Emit.l0, List.length_map, if_pos (by omega), if_pos (by omega), rd_i]) ?_
    by_cases c1 : (at_ l i).f0 = 1
    · rw [if_pos c1] at ih
      refine Ev.congr (fun k => by rw [if_pos (show (toI (at_ l i)).f0 = 1 from c1), if_pos (by omega)]) ?_
      refine Ev.step (fun k => by rw [tamisref23_Emit.j1, if_neg (show ¬ (toI (at_ l i)).f0 = 2 by show ¬ (at_ l i).f0 = 2; omega)]) ?_
      exact Ev.step (fun k => by rw [tamisref23_Emit.j2, if_neg (show ¬ (toI (at_ l i)).f0 = 3 by show ¬ (at_ l i).f0 = 3; omega), wn i (by omega)]; try rfl) ih
    rw [if_neg c1] at ih
    refine Ev.congr (fun k => by rw [if_neg (show ¬ (toI (at_ l i)).f0 = 1 from c1)]) ?_
    by_cases c2 : (at_ l i).f0 = 2
    · rw [if_pos c2] at ih
      obtain ⟨p1, p2, p3, _⟩ := hF.place ((hF.each i hilt).yes (.inl c2))
      have M1 := marked_ev (l.map toI) (at_ l i).f3 i (by rw [List.length_map]; omega) (by rw [List.length_map]; omega)
      rw [p1] at M1
      refine Ev.step (fun k => by rw [tamisref23_Emit.j1, if_pos (show (toI (at_ l i)).f0 = 2 from c2)]) ?_
      refine Ev.bind M1 ?_
      refine Ev.congr (fun k => by rw [all_len, if_pos (by omega), if_pos (by omega), if_pos (by omega), if_pos (by omega), if_pos (by omega), rd_n, rd_n, all_get l R _ (by omega), all_get l R _ (by omega), (far_wrap hF R hilt p3 0 (by omega) (by omega)).1]) ?_
      exact Ev.step (fun k => by rw [tamisref23_Emit.j2, if_neg (show ¬ (toI (at_ l i)).f0 = 3 by show ¬ (at_ l i).f0 = 3; omega), wn i (by omega)]; try rfl) ih
    rw [if_neg c2] at ih
    refine Ev.step (fun k => by rw [tamisref23_Emit.j1, if_neg (show ¬ (toI (at_ l i)).f0 = 2 from c2)]) ?_
    by_cases c3 : (at_ l i).f0 = 3
    · rw [if_neg (by omega)] at ih
      obtain ⟨p1, p2, p3, _⟩ := hF.place ((hF.each i hilt).yes (.inr c3))
      obtain ⟨q1, q2, q3, _⟩ := hF.place ((hF.each i hilt).no c3)
      have M1 := marked_ev (l.map toI) (at_ l i).f3 i (by rw [List.length_map]; omega) (by rw [List.length_map]; omega)
      have M2 := marked_ev (l.map toI) (at_ l i).f4 i (by rw [List.length_map]; omega) (by rw [List.length_map]; omega)
      rw [p1] at M1
      rw [q1] at M2
      obtain ⟨w1, w2⟩ := far_wrap hF R hilt p3 1 (by omega) (by omega)
      obtain ⟨w3, w4⟩ := far_wrap hF R hilt q3 2 (by omega) (by omega)
      refine Ev.step (fun k => by rw [tamisref23_Emit.j2, if_pos (show (toI (at_ l i)).f0 = 3 from c3)]) ?_
      refine Ev.bind M1 ?_
      refine Ev.congr (fun k => by rw [all_len, if_pos (by omega), if_pos (by omega), if_pos (by omega), if_pos (by omega)]) ?_
      refine Ev.bind M2 ?_
      refine Ev.congr (fun k => by
        rw [if_pos (by omega), if_pos (by omega), if_pos (by omega), rd_n, rd_n, rd_n, rdOf_n, all_get l R _ (by omega), all_get l R _ (by omega), all_get l R _ (by omega), w1, w2, w3, w4]) ?_
      by_cases cb : R.getD i false = true
      · rw [if_neg (by rw [cb]; decide)] at ih
        exact Ev.congr (fun k => by rw [if_pos cb, Option.bind_some, if_pos (by simp only [List.length_cons, List.length_nil]; omega), wn i (by omega)]; try rfl) ih
      · rw [if_pos (by simpa using cb)] at ih
        exact Ev.congr (fun k => by rw [if_neg cb, if_pos (by omega), wn i (by omega)]; try rfl) ih
    · have c4 : (at_ l i).f0 = 4 := by have := kinds (hF.each i hilt).form; omega
      rw [if_pos c4, List.append_nil] at ih
      exact Ev.step (fun k => by rw [tamisref23_Emit.j2, if_neg (show ¬ (toI (at_ l i)).f0 = 3 from c3), wn i (by omega)]; try rfl) ih
theorem emit_ev {l : List S40} (hF : Fine l) {R : List Bool} (hD : Done l R) (hL : Ev (fun k => tamisref23_Long.f k (l.map toI)) R) : Ev (fun k => tamisref23_Emit.f k (l.map toI)) (EmitB.putAll l (places l R) R l.length) := by
  have H := emit_loop hF hD l.length 0 (by omega)
  unfold tamisref23_Emit.f
  refine Ev.bind hL ?_
  refine Ev.bind (places_ev l R hF.len hD.len) ?_
  exact H

/-! ### The same instructions -/
theorem same_loop (L : List S56) (hl : L.length ≤ 1000000) : ∀ d i, i + d = L.length → Ev (fun k => tamisref02_Same.l0 k L L (i : Int)) true
  | 0, i, hi => Ev.step (fun k => by rw [tamisref02_Same.l0, if_neg (by omega)]) (Ev.now _)
  | d + 1, i, hi => by
    have ih := same_loop L hl d (i + 1) (by omega)
    exact Ev.step (fun k => by rw [tamisref02_Same.l0, if_pos (by omega), if_pos (by omega), if_pos (by omega), if_neg (by simp), wn i (by omega)]) ih
theorem same_ev (L : List S56) (hl : L.length ≤ 1000000) : Ev (fun k => tamisref02_Same.f k L L) true := by
  unfold tamisref02_Same.f
  refine Ev.congr (fun k => by rw [if_pos rfl]) ?_
  exact same_loop L hl L.length 0 (by omega)

/-! ### The program's answers -/
theorem prog_fine {l : List S40} (hw : wfB l = true) (hF : Fine l) {R : List Bool} (hR : Ev (fun k => roundF l k (EmitB.start l)) R) :
    Ev (fun k => emit_Long.f k l) (R, 0) ∧ Ev (fun k => emit_Size.f k l) (placeAt l R l.length, 0) ∧
    Ev (fun k => emit_Emit.f k l) (if placeAt l R l.length > 4096 then ([], 14) else (EmitB.putAll l (places l R) R l.length, 0)) := by
  have hc : (chk l).2 = 0 := (fine_iff l).2 hF
  refine ⟨?_, ?_, ?_⟩
  · unfold emit_Long.f longF
    refine Ev.congr (fun k => by rw [if_pos hw, if_pos hc]) ?_
    exact Ev.bind hR (Ev.now _)
  · unfold emit_Size.f sizeF
    refine Ev.congr (fun k => by rw [if_pos hw, if_pos hc]) ?_
    exact Ev.bind hR (Ev.now _)
  · unfold emit_Emit.f emitF
    refine Ev.congr (fun k => by rw [if_pos hw, if_pos hc]) ?_
    refine Ev.bind hR ?_
    by_cases c : placeAt l R l.length > 4096
    · rw [if_pos c]; exact Ev.congr (fun k => by rw [if_pos c]) (Ev.now _)
    · rw [if_neg c]; exact Ev.congr (fun k => by rw [if_neg c]) (Ev.now _)
theorem prog_bad {l : List S40} (hw : wfB l = true) (hc : ¬ (chk l).2 = 0) :
    Ev (fun k => emit_Long.f k l) ([], (chk l).2) ∧ Ev (fun k => emit_Size.f k l) (0, (chk l).2) ∧ Ev (fun k => emit_Emit.f k l) ([], (chk l).2) := by
  refine ⟨?_, ?_, ?_⟩
  · unfold emit_Long.f longF
    exact Ev.congr (fun k => by rw [if_pos hw, if_neg hc]) (Ev.now _)
  · unfold emit_Size.f sizeF
    exact Ev.congr (fun k => by rw [if_pos hw, if_neg hc]) (Ev.now _)
  · unfold emit_Emit.f emitF
    exact Ev.congr (fun k => by rw [if_pos hw, if_neg hc]) (Ev.now _)
theorem prog_chk {l : List S40} (hw : wfB l = true) : emit_Check.f l = some (chk l) := by unfold emit_Check.f checkF; rw [if_pos hw]
end Go.Proofs.Ytmjpibeiglicdaa.EmitP
