/- Plain laws of layer 24: the labels and targets of a tree; a tree with a place for each label behind it may be. -/
import Derived.Test.YtmjpibeiglicdaaTreeL
import Derived.Test.YtmjpibeiglicdaaRefT
namespace Go.Proofs.Ytmjpibeiglicdaa.TreeL
set_option linter.unusedVariables false
open Go.RowKit Go.Proofs.Ytmjpibeiglicdaa.T Go.Proofs.YtmjpibeiglicdaaV.PrintWords Go.Proofs.YtmjpibeiglicdaaV.PrintLast Go.Proofs.YtmjpibeiglicdaaV.PrintMore
open Go.Proofs.Ytmjpibeiglicdaa.TreeB (leafF rowsF buildF rows_len leaf_len)
open Go.Proofs.Ytmjpibeiglicdaa.Code (kindOf codes)
open Go.Proofs.Ytmjpibeiglicdaa.RefT (isM mark_spec formed locE loc2 checkE lastE badI bad_zero)

theorem wrong_ok {l : List S113} {other first : Int} (h : wrongE l other first = 0) : l.length ≤ 4096 ∧ 1 ≤ first ∧ first ≤ 1073741824 ∧ 0 ≤ other ∧ other < first ∧ scanW l first l.length 0 = 0 := by
  unfold wrongE at h
  by_cases c : l.length > 4096
  · rw [if_pos c] at h; omega
  rw [if_neg c] at h
  by_cases c2 : first < 1 ∨ first > 1073741824 ∨ other < 0 ∨ other ≥ first
  · rw [if_pos c2] at h; omega
  rw [if_neg c2] at h
  exact ⟨by omega, by omega, by omega, by omega, by omega, h⟩
theorem scan_ok {l : List S113} {first : Int} : ∀ {d i : Nat}, scanW l first d i = 0 → ∀ j, i ≤ j → j < i + d → badAt l first j = false
  | 0, i, _, j, h1, h2 => by omega
  | d + 1, i, h, j, h1, h2 => by
    rw [scanW] at h
    by_cases c : badAt l first i = true
    · rw [if_pos c] at h; omega
    · rw [if_neg c] at h
      by_cases e : j = i
      · rw [e]; exact Bool.eq_false_iff.2 c
      · exact scan_ok h j (by omega) (by omega)
/-- All rows go to labels below first. -/
def To (l : List S113) (first : Int) : Prop := ∀ x ∈ l, 0 ≤ x.f2 ∧ x.f2 < first
theorem to_of {l : List S113} {other first : Int} (h : wrongE l other first = 0) : To l first := by
  obtain ⟨_, _, _, _, _, hs⟩ := wrong_ok h
  intro x hx
  obtain ⟨i, hi, rfl⟩ := List.getElem_of_mem hx
  have hb := scan_ok hs i (by omega) (by omega)
  have e : at_ l i = l[i] := by unfold at_; rw [List.getD_eq_getElem?_getD, List.getElem?_eq_getElem hi]; rfl
  by_cases c : 0 ≤ l[i].f2 ∧ l[i].f2 < first
  · exact c
  · have : badAt l first i = true := (bad_iff l first i).2 (by rw [e]; omega)
    rw [hb] at this; cases this

/-! ### Labels and targets of items -/
def marksOf (l : List S38) : List Int := (l.filter fun x => decide (x.f0 = 4)).map fun x => x.f3
theorem marks_append (a b : List S38) : marksOf (a ++ b) = marksOf a ++ marksOf b := by simp [marksOf]
theorem marks_cons (x : S38) (b : List S38) : marksOf (x :: b) = (if x.f0 = 4 then [x.f3] else []) ++ marksOf b := by
  unfold marksOf
  by_cases c : x.f0 = 4 <;> simp [c]
theorem marks_nil : marksOf [] = [] := rfl
def okT (F t : Int) (r : List S38) : Prop := (0 ≤ t ∧ t < F) ∨ t ∈ marksOf r
theorem okT.more {F t : Int} {r : List S38} (h : okT F t r) (b : List S38) : okT F t (r ++ b) := by
  rcases h with h | h
  · exact .inl h
  · exact .inr (by rw [marks_append]; exact List.mem_append_left _ h)
def TgL (F : Int) : List S38 → Prop
  | [] => True
  | x :: r => ((x.f0 = 2 ∨ x.f0 = 3) → okT F x.f3 r) ∧ (x.f0 = 3 → okT F x.f4 r) ∧ TgL F r
theorem TgL.append {F : Int} : ∀ {a b : List S38}, TgL F a → TgL F b → TgL F (a ++ b)
  | [], _, _, hb => hb
  | _ :: _, b, h, hb => ⟨fun e => (h.1 e).more b, fun e => (h.2.1 e).more b, TgL.append h.2.2 hb⟩
theorem TgL.close {F : Int} : ∀ {a b : List S38}, TgL F a → (∀ t, 0 ≤ t → t < F → t ∈ marksOf b) → TgL 0 b → TgL 0 (a ++ b)
  | [], b, _, _, hb => hb
  | x :: r, b, h, ht, hb => by
    have up : ∀ t, okT F t r → okT 0 t (r ++ b) := fun t h => by
      rcases h with h | h
      · exact .inr (by rw [marks_append]; exact List.mem_append_right _ (ht t h.1 h.2))
      · exact .inr (by rw [marks_append]; exact List.mem_append_left _ h)
    exact ⟨fun e => up _ (h.1 e), fun e => up _ (h.2.1 e), TgL.close h.2.2 ht hb⟩
theorem TgL.at_ : ∀ {l : List S38} {i : Nat}, TgL 0 l → i < l.length → (((RefT.at_ l i).f0 = 2 ∨ (RefT.at_ l i).f0 = 3) → (RefT.at_ l i).f3 ∈ marksOf (l.drop (i + 1))) ∧ ((RefT.at_ l i).f0 = 3 → (RefT.at_ l i).f4 ∈ marksOf (l.drop (i + 1)))
  | [], i, _, h => by simp at h
  | x :: r, 0, h, _ => by
    have no : ∀ t, okT 0 t r → t ∈ marksOf r := fun t h => by
      rcases h with h | h
      · omega
      · exact h
    exact ⟨fun e => no _ (h.1 e), fun e => no _ (h.2.1 e)⟩
  | x :: r, i + 1, h, hi => by
    have := TgL.at_ (l := r) (i := i) h.2.2 (by simpa using hi)
    have e : RefT.at_ (x :: r) (i + 1) = RefT.at_ r i := by simp [RefT.at_]
    rw [e]; exact this
theorem mem_marks {l : List S38} {t : Int} {i : Nat} (hi : i < l.length) (h : isM (RefT.at_ l i) t = true) : t ∈ marksOf l := by
  unfold isM at h
  simp only [Bool.and_eq_true, decide_eq_true_eq] at h
  have e : RefT.at_ l i = l[i] := by unfold RefT.at_; rw [List.getD_eq_getElem?_getD, List.getElem?_eq_getElem hi]; rfl
  rw [e] at h
  exact List.mem_map.2 ⟨l[i], List.mem_filter.2 ⟨List.getElem_mem hi, decide_eq_true h.1⟩, h.2⟩
theorem marks_at {l : List S38} {t : Int} (h : t ∈ marksOf l) : ∃ i, i < l.length ∧ isM (RefT.at_ l i) t = true := by
  obtain ⟨x, hx, ht⟩ := List.mem_map.1 h
  obtain ⟨hm, h4⟩ := List.mem_filter.1 hx
  obtain ⟨i, hi, rfl⟩ := List.getElem_of_mem hm
  refine ⟨i, hi, ?_⟩
  have e : RefT.at_ l i = l[i] := by unfold RefT.at_; rw [List.getD_eq_getElem?_getD, List.getElem?_eq_getElem hi]; rfl
  unfold isM
  rw [e, h4, decide_eq_true ht]; rfl
theorem at_take {l : List S38} {i j : Nat} (h : i < j) : RefT.at_ (l.take j) i = RefT.at_ l i := by
  unfold RefT.at_
  rw [List.getD_eq_getElem?_getD, List.getD_eq_getElem?_getD, List.getElem?_take, if_pos h]
theorem at_drop (l : List S38) (i j : Nat) : RefT.at_ (l.drop j) i = RefT.at_ l (j + i) := by
  unfold RefT.at_
  rw [List.getD_eq_getElem?_getD, List.getD_eq_getElem?_getD, List.getElem?_drop]
theorem mark_first {l : List S38} (hn : (marksOf l).Nodup) {t : Int} {j : Nat} (hj : j < l.length) (h : isM (RefT.at_ l j) t = true) : RefT.mark l t 0 = (j : Int) := by
  rcases mark_spec l t 0 with ⟨_, h2⟩ | ⟨m, h1, _, h3, h4, h5⟩
  · rw [h2 j (by omega) hj] at h; cases h
  · rw [h1]
    by_cases c : m < j
    · exfalso
      have e1 : t ∈ marksOf (l.take j) := mem_marks (i := m) (by rw [List.length_take]; omega) (by rw [at_take c]; exact h4)
      have e2 : t ∈ marksOf (l.drop j) := mem_marks (i := 0) (by rw [List.length_drop]; omega) (by rw [at_drop]; exact h)
      rw [← List.take_append_drop j l, marks_append] at hn
      exact (List.nodup_append.1 hn).2.2 t e1 t e2 rfl
    · by_cases e : m = j
      · rw [e]
      · rw [h5 j (by omega) (by omega)] at h; cases h
theorem mark_some {l : List S38} {t : Int} {i : Nat} (h : t ∈ marksOf (l.drop (i + 1))) : ¬ RefT.mark l t i < 0 := by
  obtain ⟨j, hj, hm⟩ := marks_at h
  rw [at_drop] at hm
  rw [List.length_drop] at hj
  rcases mark_spec l t i with ⟨_, h2⟩ | ⟨m, h1, _⟩
  · rw [h2 (i + 1 + j) (by omega) (by omega)] at hm; cases hm
  · rw [h1]; omega
/-- Items that may be. -/
theorem check_ok {l : List S38} (h0 : 0 < l.length) (h1 : l.length ≤ 65536) (hf : ∀ x ∈ l, formed x = true) (hn : (marksOf l).Nodup) (ht : TgL 0 l) (hl : (RefT.at_ l (l.length - 1)).f0 = 1) : checkE l = (0, 0) := by
  have hb : (badI l l.length 0).2 = 0 := by
    rw [bad_zero]
    intro j _ hj
    have hj : j < l.length := by omega
    have e : RefT.at_ l j = l[j] := by unfold RefT.at_; rw [List.getD_eq_getElem?_getD, List.getElem?_eq_getElem hj]; rfl
    have hfj : formed (RefT.at_ l j) = true := by rw [e]; exact hf _ (List.getElem_mem hj)
    obtain ⟨t1, t2⟩ := TgL.at_ ht hj
    unfold locE
    rw [if_neg (by rw [hfj]; decide)]
    rw [if_neg (by
      rintro ⟨h4, hm⟩
      rw [mark_first hn hj (by unfold isM; rw [decide_eq_true h4, decide_eq_true rfl]; rfl)] at hm
      omega)]
    unfold loc2
    rw [if_neg (by
      rintro (⟨h, hm⟩ | ⟨h, hm⟩)
      · exact mark_some (t1 h) hm
      · exact mark_some (t2 h) hm)]
  unfold checkE
  rw [if_neg (by omega), if_neg (by omega), if_pos hb]
  unfold lastE
  rw [if_pos hl]

/-! ### A tree's items -/
/-- What is true of a tree's items, from label next to label ends, of so many rows. -/
structure Fair (F next ends : Int) (n : Nat) (I : List S38) : Prop where
  form : ∀ x ∈ I, formed x = true
  tgts : TgL F I
  nodup : (marksOf I).Nodup
  range : ∀ t ∈ marksOf I, next ≤ t ∧ t < ends
  marks : ((marksOf I).length : Int) = ends - next
  rest : I.length + 1 ≤ 3 * n + (marksOf I).length
theorem formed_ask {c k y n : Int} (h : kindOf c = 12) : formed ⟨3, c, k, y, n⟩ = true := by simp [formed, h]
theorem formed_mark (t : Int) : formed ⟨4, 0, 0, t, 0⟩ = true := rfl
theorem formed_jump (t : Int) : formed ⟨2, 0, 0, t, 0⟩ = true := rfl
theorem kinds3 : kindOf 21 = 12 ∧ kindOf 37 = 12 ∧ kindOf 53 = 12 ∧ kindOf 0 = 3 ∧ kindOf 6 = 13 := by decide +kernel
theorem fair_leaf (F : Int) (x : S113) (other next : Int) (hx : 0 ≤ x.f2 ∧ x.f2 < F) (ho : 0 ≤ other ∧ other < F) (_hF : F ≤ next) : Fair F next (leafF x other next).2 1 ((leafF x other next).1.map toI) := by
  obtain ⟨k1, k2, k3, _⟩ := kinds3
  unfold leafF
  by_cases c1 : x.f0 = 0 ∧ x.f1 = 4294967295
  · rw [if_pos c1]
    refine ⟨by simp [toI, formed_jump], ⟨fun _ => .inl hx, fun e => by simp [toI] at e, trivial⟩, ?_, ?_, ?_, ?_⟩ <;> simp [toI, marksOf]
  rw [if_neg c1]
  by_cases c2 : x.f0 = x.f1
  · rw [if_pos c2]
    refine ⟨by simp [toI, formed_ask k1], ⟨fun _ => .inl hx, fun _ => .inl ho, trivial⟩, ?_, ?_, ?_, ?_⟩ <;> simp [toI, marksOf]
  rw [if_neg c2]
  by_cases c3 : x.f0 = 0
  · rw [if_pos c3]
    refine ⟨by simp [toI, formed_ask k2], ⟨fun _ => .inl ho, fun _ => .inl hx, trivial⟩, ?_, ?_, ?_, ?_⟩ <;> simp [toI, marksOf]
  rw [if_neg c3]
  by_cases c4 : x.f1 = 4294967295
  · rw [if_pos c4]
    refine ⟨by simp [toI, formed_ask k3], ⟨fun _ => .inl hx, fun _ => .inl ho, trivial⟩, ?_, ?_, ?_, ?_⟩ <;> simp [toI, marksOf]
  rw [if_neg c4]
  refine ⟨by simp [toI, formed_ask k3, formed_ask k2, formed_mark], ⟨fun _ => .inr (by simp [toI, marksOf]), fun _ => .inl ho, fun e => by simp [toI] at e, fun e => by simp [toI] at e, fun _ => .inl ho, fun _ => .inl hx, trivial⟩, ?_, ?_, ?_, ?_⟩ <;> simp [toI, marksOf] <;> omega
theorem fair_many {F next e1 e2 : Int} {n1 n2 : Nat} {A B : List S38} (k : Int) (hA : Fair F (next + 2) e1 n1 A) (hB : Fair F e1 e2 n2 B) (h1 : next + 2 ≤ e1) (h2 : e1 ≤ e2) (hn1 : 0 < n1) (_hn2 : 0 < n2) (hF : F ≤ next) :
    Fair F next e2 (n1 + n2) ([(⟨3, 53, k, next, next + 1⟩ : S38), ⟨4, 0, 0, next + 1, 0⟩] ++ A ++ [(⟨4, 0, 0, next, 0⟩ : S38)] ++ B) := by
  obtain ⟨_, _, k3, _⟩ := kinds3
  have hm : marksOf ([(⟨3, 53, k, next, next + 1⟩ : S38), ⟨4, 0, 0, next + 1, 0⟩] ++ A ++ [(⟨4, 0, 0, next, 0⟩ : S38)] ++ B) = (next + 1) :: (marksOf A ++ next :: marksOf B) := by
    rw [marks_append, marks_append, marks_append]
    have a1 : marksOf [(⟨3, 53, k, next, next + 1⟩ : S38), ⟨4, 0, 0, next + 1, 0⟩] = [next + 1] := by simp [marksOf]
    have a2 : marksOf [(⟨4, 0, 0, next, 0⟩ : S38)] = [next] := by simp [marksOf]
    rw [a1, a2]; simp
  refine ⟨?_, ?_, ?_, ?_, ?_, ?_⟩
  · intro x hx
    simp only [List.mem_append, List.mem_cons, List.not_mem_nil, or_false] at hx
    rcases hx with ((hx | hx) | hx) | hx
    · rcases hx with rfl | rfl
      · exact formed_ask k3
      · exact formed_mark _
    · exact hA.form x hx
    · rw [hx]; exact formed_mark _
    · exact hB.form x hx
  · have e : [(⟨3, 53, k, next, next + 1⟩ : S38), ⟨4, 0, 0, next + 1, 0⟩] ++ A ++ [(⟨4, 0, 0, next, 0⟩ : S38)] ++ B = (⟨3, 53, k, next, next + 1⟩ : S38) :: (⟨4, 0, 0, next + 1, 0⟩ : S38) :: (A ++ (⟨4, 0, 0, next, 0⟩ : S38) :: B) := by simp
    rw [e]
    refine ⟨fun _ => .inr ?_, fun _ => .inr ?_, fun e => by simp at e, fun e => by simp at e, TgL.append hA.tgts ⟨fun e => by simp at e, fun e => by simp at e, hB.tgts⟩⟩
    · rw [marks_cons, marks_append, marks_cons]; simp
    · rw [marks_cons]; simp
  · rw [hm, List.nodup_cons, List.nodup_append]
    refine ⟨fun h => ?_, hA.nodup, List.nodup_cons.2 ⟨fun h => ?_, hB.nodup⟩, fun a ha b hb => ?_⟩
    · simp only [List.mem_append, List.mem_cons] at h
      rcases h with h | h | h
      · have := hA.range _ h; omega
      · omega
      · have := hB.range _ h; omega
    · have := hB.range _ h; omega
    · have h1 := hA.range a ha
      rcases List.mem_cons.1 hb with rfl | hb
      · omega
      · have := hB.range b hb; omega
  · rw [hm]
    intro t ht
    simp only [List.mem_cons, List.mem_append] at ht
    rcases ht with rfl | ht | rfl | ht
    · omega
    · have := hA.range t ht; omega
    · omega
    · have := hB.range t ht; omega
  · rw [hm]
    have a := hA.marks
    have b := hB.marks
    simp only [List.length_cons, List.length_append]; omega
  · rw [hm]
    have a := hA.rest
    have b := hB.rest
    simp only [List.length_cons, List.length_append, List.length_nil]; omega
theorem fair_rows (F other : Int) (ho : 0 ≤ other ∧ other < F) : ∀ (d : Nat) (l : List S113) (next : Int), 0 < l.length → l.length ≤ d → To l F → F ≤ next →
    Fair F next (rowsF d l other next).2 l.length ((rowsF d l other next).1.map toI)
  | 0, l, next, h0, h1, _, _ => by omega
  | d + 1, l, next, h0, h1, ht, hF => by
    rw [rowsF, if_neg (by omega)]
    by_cases y : l.length = 1
    · rw [if_pos y, y]
      refine fair_leaf F _ other next (ht _ ?_) ho hF
      rw [List.getD_eq_getElem?_getD, List.getElem?_eq_getElem h0]
      exact List.getElem_mem h0
    · rw [if_neg y]
      have e1 : (l.take (l.length / 2)).length = l.length / 2 := by rw [List.length_take]; omega
      have e2 : (l.drop (l.length / 2)).length = l.length - l.length / 2 := List.length_drop
      obtain ⟨a1, a2, a3⟩ := rows_len d (l.take (l.length / 2)) other (next + 2) (by omega) (by omega)
      obtain ⟨b1, b2, b3⟩ := rows_len d (l.drop (l.length / 2)) other (rowsF d (l.take (l.length / 2)) other (next + 2)).2 (by omega) (by omega)
      have H1 := fair_rows F other ho d (l.take (l.length / 2)) (next + 2) (by omega) (by omega) (fun x hx => ht x (List.mem_of_mem_take hx)) (by omega)
      have H2 := fair_rows F other ho d (l.drop (l.length / 2)) (rowsF d (l.take (l.length / 2)) other (next + 2)).2 (by omega) (by omega) (fun x hx => ht x (List.mem_of_mem_drop hx)) (by omega)
      have H := fair_many (l.getD (l.length / 2) z113).f0 H1 H2 a2 b2 (by omega) (by omega) hF
      rw [e1, e2, show l.length / 2 + (l.length - l.length / 2) = l.length by omega] at H
      show Fair F next _ l.length (List.map toI ([(⟨3, 53, (l.getD (l.length / 2) z113).f0, next, next + 1⟩ : S40), ⟨4, 0, 0, next + 1, 0⟩] ++ (rowsF d (l.take (l.length / 2)) other (next + 2)).1 ++ [(⟨4, 0, 0, next, 0⟩ : S40)] ++ (rowsF d (l.drop (l.length / 2)) other (rowsF d (l.take (l.length / 2)) other (next + 2)).2).1))
      simp only [List.map_append, List.map_cons, List.map_nil]
      exact H

/-! ### A tree with a place for each label behind it -/
def tailL : Nat → List S40
  | 0 => []
  | n + 1 => tailL n ++ [⟨4, 0, 0, (n : Int), 0⟩, ⟨1, 6, (n : Int), 0, 0⟩]
theorem tail_len : ∀ n, (tailL n).length = 2 * n
  | 0 => rfl
  | n + 1 => by rw [tailL, List.length_append, tail_len n]; simp only [List.length_cons, List.length_nil]; omega
theorem tail_marks : ∀ n, marksOf ((tailL n).map toI) = (List.range n).map fun i : Nat => (i : Int)
  | 0 => rfl
  | n + 1 => by
    rw [tailL, List.map_append, marks_append, tail_marks n, List.range_succ, List.map_append]
    simp [toI, marksOf]
theorem tail_form : ∀ n, ∀ x ∈ (tailL n).map toI, formed x = true
  | 0, x, hx => by simp [tailL] at hx
  | n + 1, x, hx => by
    rw [tailL, List.map_append] at hx
    rcases List.mem_append.1 hx with hx | hx
    · exact tail_form n x hx
    · obtain ⟨_, _, _, _, k6⟩ := kinds3
      simp only [List.map_cons, List.map_nil, List.mem_cons, List.not_mem_nil, or_false] at hx
      rcases hx with rfl | rfl
      · exact formed_mark _
      · simp [toI, formed, k6]
theorem tail_tgts (F : Int) : ∀ n, TgL F ((tailL n).map toI)
  | 0 => trivial
  | n + 1 => by
    rw [tailL, List.map_append]
    exact TgL.append (tail_tgts F n) ⟨fun e => by simp [toI] at e, fun e => by simp [toI] at e, fun e => by simp [toI] at e, fun e => by simp [toI] at e, trivial⟩
theorem whole_ok {l : List S113} {other first : Int} (hw : wrongE l other first = 0) (hn : 0 < l.length) (hl : l.length ≤ 60) (hf : first ≤ 60) (n : Int) :
    checkE (((⟨1, 0, n, 0, 0⟩ : S40) :: (rowsF l.length l other first).1 ++ tailL first.toNat).map toI) = (0, 0) := by
  obtain ⟨_, q1, q2, q3, q4, _⟩ := wrong_ok hw
  have H := fair_rows first other ⟨q3, q4⟩ l.length l first hn (Nat.le_refl _) (to_of hw) (Int.le_refl _)
  obtain ⟨r1, r2, r3⟩ := rows_len l.length l other first hn (Nat.le_refl _)
  have hmt : ∀ t : Int, 0 ≤ t → t < first → t ∈ marksOf ((tailL first.toNat).map toI) := fun t a b => by
    rw [tail_marks]; exact List.mem_map.2 ⟨t.toNat, List.mem_range.2 (by omega), by omega⟩
  have e : ((⟨1, 0, n, 0, 0⟩ : S40) :: (rowsF l.length l other first).1 ++ tailL first.toNat).map toI = (⟨1, 0, n, 0, 0⟩ : S38) :: ((rowsF l.length l other first).1.map toI ++ (tailL first.toNat).map toI) := by
    rw [List.cons_append, List.map_cons, List.map_append]; rfl
  have hlen : (((rowsF l.length l other first).1.map toI ++ (tailL first.toNat).map toI)).length = (rowsF l.length l other first).1.length + 2 * first.toNat := by
    rw [List.length_append, List.length_map, List.length_map, tail_len]
  obtain ⟨_, _, _, k0, _⟩ := kinds3
  have em : marksOf ((⟨1, 0, n, 0, 0⟩ : S38) :: ((rowsF l.length l other first).1.map toI ++ (tailL first.toNat).map toI)) = marksOf ((rowsF l.length l other first).1.map toI) ++ marksOf ((tailL first.toNat).map toI) := by
    rw [marks_cons, marks_append]; simp
  rw [e]
  refine check_ok (by simp) (by rw [List.length_cons, hlen]; omega) (fun x hx => ?_) ?_ ⟨fun e => by simp at e, fun e => by simp at e, TgL.close H.tgts hmt (tail_tgts 0 _)⟩ ?_
  · rcases List.mem_cons.1 hx with rfl | hx
    · simp [formed, k0]
    · rcases List.mem_append.1 hx with hx | hx
      · exact H.form x hx
      · exact tail_form _ x hx
  · rw [em, tail_marks, List.nodup_append]
    refine ⟨H.nodup, ?_, fun a ha b hb => ?_⟩
    · exact List.pairwise_map.2 (List.Pairwise.imp (fun {a b} h e => h (by omega)) List.nodup_range)
    · have := H.range a ha
      obtain ⟨i, hi, rfl⟩ := List.mem_map.1 hb
      have := List.mem_range.1 hi
      omega
  · rw [List.length_cons, hlen, Nat.add_sub_cancel]
    obtain ⟨m, hm⟩ : ∃ m, first.toNat = m + 1 := ⟨first.toNat - 1, by omega⟩
    rw [hm, tailL, List.map_append]
    have : RefT.at_ ((⟨1, 0, n, 0, 0⟩ : S38) :: ((rowsF l.length l other first).1.map toI ++ ((tailL m).map toI ++ [(⟨4, 0, 0, (m : Int), 0⟩ : S38), ⟨1, 6, (m : Int), 0, 0⟩]))) ((rowsF l.length l other first).1.length + 2 * (m + 1)) = ⟨1, 6, (m : Int), 0, 0⟩ := by
      unfold RefT.at_
      rw [show (rowsF l.length l other first).1.length + 2 * (m + 1) = ((rowsF l.length l other first).1.length + (2 * m + 1)) + 1 by omega, List.getD_cons_succ, List.getD_eq_getElem?_getD,
        List.getElem?_append_right (by rw [List.length_map]; omega), List.length_map, Nat.add_sub_cancel_left, List.getElem?_append_right (by rw [List.length_map, tail_len]; omega), List.length_map, tail_len, Nat.add_sub_cancel_left]
      rfl
    show (RefT.at_ ((⟨1, 0, n, 0, 0⟩ : S38) :: ((rowsF l.length l other first).1.map toI ++ ((tailL m).map toI ++ [(⟨4, 0, 0, (m : Int), 0⟩ : S38), ⟨1, 6, (m : Int), 0, 0⟩]))) _).f0 = 1
    rw [this]
end Go.Proofs.Ytmjpibeiglicdaa.TreeL
