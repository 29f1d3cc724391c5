/- Plain laws of layer 23: places, and the rounds in which questions grow. -/
import Derived.Test.YtmjpibeiglicdaaEmitP
import Derived.Test.YtmjpibeiglicdaaE5
namespace Go.Proofs.Ytmjpibeiglicdaa.EmitP
open Go.RowKit Go.Proofs.Ytmjpibeiglicdaa.E Go.Proofs.YtmjpibeiglicdaaU.PrintWords Go.Proofs.YtmjpibeiglicdaaU.PrintLast Go.Proofs.YtmjpibeiglicdaaU.PrintMore
open Go.Proofs.Ytmjpibeiglicdaa.EmitB
open Go.Proofs.Ytmjpibeiglicdaa.RefE (ws wn)

theorem rd_i (l : List S40) (i : Nat) : rd_T38 (l.map toI) (i : Int) = toI (at_ l i) := by rw [RefE.rd_at, ref_at]
theorem rd_n (xs : List Int) (i : Nat) : rd xs (i : Int) = xs.getD i 0 := by simp [rd]
theorem rdOf_n (xs : List Bool) (i : Nat) : rdOf false xs (i : Int) = xs.getD i false := by simp [rdOf]
theorem setB {ls : List Bool} {k j : Nat} {x : Bool} (hk : k < ls.length) : (ls.set k x).getD j false = if j = k then x else ls.getD j false := by
  rw [List.getD_eq_getElem?_getD, List.getElem?_set, List.getD_eq_getElem?_getD]
  by_cases e : k = j
  · subst e; simp [hk]
  · rw [if_neg e, if_neg (Ne.symm e)]

/-! ### Places -/
def allP (l : List S40) (ls : List Bool) : List Int := (List.range (l.length + 1)).map (placeAt l ls)
theorem all_len (l : List S40) (ls : List Bool) : (allP l ls).length = l.length + 1 := by unfold allP; rw [List.length_map, List.length_range]
theorem all_get (l : List S40) (ls : List Bool) (j : Nat) (h : j ≤ l.length) : (allP l ls).getD j 0 = placeAt l ls j := by
  unfold allP
  rw [List.getD_eq_getElem?_getD, List.getElem?_map, List.getElem?_range (by omega)]; rfl
theorem places_get (l : List S40) (ls : List Bool) (j : Nat) (h : j < l.length) : (places l ls).getD j 0 = placeAt l ls j := by
  unfold places
  rw [List.getD_eq_getElem?_getD, List.getElem?_map, List.getElem?_range h]; rfl
theorem all_of {l : List S40} {ls : List Bool} {ps : List Int} (hl : ps.length = l.length + 1) (h : ∀ j, j ≤ l.length → ps.getD j 0 = placeAt l ls j) : ps = allP l ls := by
  apply List.ext_getElem
  · rw [hl, all_len]
  · intro j h1 h2
    have a := h j (by omega)
    have b := all_get l ls j (by omega)
    rw [List.getD_eq_getElem?_getD, List.getElem?_eq_getElem h1, Option.getD_some] at a
    rw [List.getD_eq_getElem?_getD, List.getElem?_eq_getElem h2, Option.getD_some] at b
    rw [a, b]
theorem places_loop (l : List S40) (ls : List Bool) (hl : l.length ≤ 65536) (hls : ls.length = l.length) : ∀ (d i : Nat) (x5 : List Int), i + d = l.length → x5.length = l.length + 1 → (∀ j, j ≤ i → x5.getD j 0 = placeAt l ls j) →
    Ev (fun k => tamisref23_Places.l0 k (l.map toI) ls x5 (i : Int)) (allP l ls)
  | 0, i, x5, hi, hx, hj => by
    rw [← all_of hx (fun j h => hj j (by omega))]
    exact Ev.step (fun k => by rw [tamisref23_Places.l0, List.length_map, if_neg (by omega)]) (Ev.now _)
  | d + 1, i, x5, hi, hx, hj => by
    have hp := place_range l ls i
    have hw : tamisref23_width.f (toI (at_ l i)).f0 (toI (at_ l i)).f1 (toI (at_ l i)).f2 (toI (at_ l i)).f3 (toI (at_ l i)).f4 (ls.getD i false) = some (width l ls i) := by
      unfold tamisref23_width.f width
      show (if (at_ l i).f0 = 4 then _ else _) = _
      split
      · rfl
      · split <;> rfl
    have hr : 0 ≤ width l ls i ∧ width l ls i ≤ 3 := by unfold width; (repeat' split) <;> omega
    have ih := places_loop l ls hl hls d (i + 1) (x5.set (i + 1) (placeAt l ls (i + 1))) (by omega) (by rw [List.length_set]; exact hx) (fun j h => by
      rw [set_getD (by omega)]
      by_cases e : j = i + 1
      · rw [if_pos e, e]
      · rw [if_neg e]; exact hj j (by omega))
    refine Ev.step (fun k => by
      rw [tamisref23_Places.l0, List.length_map, if_pos (by omega), if_pos (by omega), if_pos (by omega), if_pos (by omega), rd_i, rdOf_n, hw, Option.bind_some, wn i (by omega), if_pos (by omega), if_pos (by omega), rd_n, hj i (Nat.le_refl _), ws _ (by omega) (by omega), Int.toNat_natCast]) ?_
    exact ih
theorem places_ev (l : List S40) (ls : List Bool) (hl : l.length ≤ 65536) (hls : ls.length = l.length) : Ev (fun k => tamisref23_Places.f k (l.map toI) ls) (allP l ls) := by
  unfold tamisref23_Places.f
  refine Ev.congr (fun k => by rw [List.length_map, wn _ (by omega), if_pos (by omega), Int.toNat_natCast, if_pos (by omega)]) ?_
  refine places_loop l ls hl hls l.length 0 _ (by omega) List.length_replicate (fun j h => ?_)
  have : j = 0 := by omega
  subst this
  rw [List.getD_eq_getElem?_getD, List.getElem?_replicate, if_pos (by omega)]; rfl

/-! ### Distances -/
theorem dist_mono (l : List S40) {ls ls' : List Bool} (h : ∀ j, ls.getD j false = true → ls'.getD j false = true) (i : Nat) : ∀ d, placeAt l ls (i + d) - placeAt l ls i ≤ placeAt l ls' (i + d) - placeAt l ls' i
  | 0 => by simp
  | d + 1 => by
    have ih := dist_mono l h i d
    have hw : width l ls (i + d) ≤ width l ls' (i + d) := by
      unfold width
      by_cases c : (at_ l (i + d)).f0 = 4
      · rw [if_pos c, if_pos c]; omega
      · rw [if_neg c, if_neg c]
        by_cases e : ls.getD (i + d) false = true
        · rw [if_pos e, if_pos (h _ e)]; omega
        · rw [if_neg e]; split <;> omega
    show placeAt l ls (i + d) + width l ls (i + d) - placeAt l ls i ≤ placeAt l ls' (i + d) + width l ls' (i + d) - placeAt l ls' i
    omega
/-- From behind a question to the farther of its labels. -/
def farM (l : List S40) (ls : List Bool) (i : Nat) : Int := mx (placeAt l ls (lastP l (at_ l i).f3)) (placeAt l ls (lastP l (at_ l i).f4)) - placeAt l ls i - 1
theorem mx_le {a b a' b' c c' : Int} (h1 : a - c ≤ a' - c') (h2 : b - c ≤ b' - c') : mx a b - c ≤ mx a' b' - c' := by unfold mx; split <;> split <;> omega
theorem mx_gt (a b c : Int) : mx a b > c ↔ a > c ∨ b > c := by unfold mx; split <;> omega
theorem farM_mono {l : List S40} (hF : Fine l) {ls ls' : List Bool} (h : ∀ j, ls.getD j false = true → ls'.getD j false = true) {i : Nat} (hi : i < l.length) (h3 : (at_ l i).f0 = 3) : farM l ls i ≤ farM l ls' i := by
  obtain ⟨_, a1, a2, _⟩ := hF.place ((hF.each i hi).yes (.inr h3))
  obtain ⟨_, b1, b2, _⟩ := hF.place ((hF.each i hi).no h3)
  have d1 := dist_mono l h i (lastP l (at_ l i).f3 - i)
  have d2 := dist_mono l h i (lastP l (at_ l i).f4 - i)
  rw [show i + (lastP l (at_ l i).f3 - i) = lastP l (at_ l i).f3 by omega] at d1
  rw [show i + (lastP l (at_ l i).f4 - i) = lastP l (at_ l i).f4 by omega] at d2
  have := mx_le d1 d2
  unfold farM; omega
theorem far_eq {l : List S40} (hF : Fine l) (ls : List Bool) {i : Nat} (hi : i < l.length) (t : Int) : farF l (places l ls) i t = placeAt l ls (lastP l t) - placeAt l ls i - 1 := by
  unfold farF
  rw [places_get l ls _ (last_p l t hF.pos).2, places_get l ls i hi]
theorem too_eq {l : List S40} (hF : Fine l) (ls : List Bool) {i : Nat} (hi : i < l.length) : tooFar l (places l ls) ls i = (decide ((at_ l i).f0 = 3) && (!ls.getD i false && decide (farM l ls i > 255))) := by
  unfold tooFar
  rw [far_eq hF ls hi, far_eq hF ls hi]
  have e : (decide (placeAt l ls (lastP l (at_ l i).f3) - placeAt l ls i - 1 > 255) || decide (placeAt l ls (lastP l (at_ l i).f4) - placeAt l ls i - 1 > 255)) = decide (farM l ls i > 255) := by
    rw [Bool.eq_iff_iff]
    simp only [Bool.or_eq_true, decide_eq_true_eq]
    unfold farM mx
    split <;> omega
  rw [e]
theorem too_iff {l : List S40} (hF : Fine l) (ls : List Bool) {i : Nat} (hi : i < l.length) : tooFar l (places l ls) ls i = true ↔ (at_ l i).f0 = 3 ∧ ls.getD i false = false ∧ farM l ls i > 255 := by
  rw [too_eq hF ls hi]
  simp only [Bool.and_eq_true, decide_eq_true_eq, Bool.not_eq_true']

/-! ### A round -/
theorem grow_get (l : List S40) (ps : List Int) (ls : List Bool) (j : Nat) : ∀ i, i ≤ ls.length → ((growF l ps ls i).getD j false = true ↔ (ls.getD j false = true ∨ (j < i ∧ tooFar l ps ls j = true)))
  | 0, _ => ⟨fun h => .inl h, fun h => by rcases h with h | h; exact h; omega⟩
  | i + 1, hi => by
    have ih := grow_get l ps ls j i (by omega)
    rw [growF]
    by_cases c : tooFar l ps ls i = true
    · rw [if_pos c, setB (by rw [grow_len]; omega)]
      by_cases e : j = i
      · rw [if_pos e]; exact ⟨fun _ => .inr ⟨by omega, by rw [e]; exact c⟩, fun _ => rfl⟩
      · rw [if_neg e, ih]
        exact ⟨fun h => h.imp id (fun h => ⟨by omega, h.2⟩), fun h => h.imp id (fun h => ⟨by omega, h.2⟩)⟩
    · rw [if_neg c, ih]
      exact ⟨fun h => h.imp id (fun h => ⟨by omega, h.2⟩), fun h => h.imp id (fun h => ⟨by
        by_cases e : j = i
        · subst e; exact absurd h.2 c
        · omega, h.2⟩)⟩
theorem more_iff (l : List S40) (ps : List Int) (ls : List Bool) : ∀ i, moreF l ps ls i = true ↔ ∃ j, j < i ∧ tooFar l ps ls j = true
  | 0 => ⟨fun h => (Bool.false_ne_true h).elim, fun ⟨j, h, _⟩ => by omega⟩
  | i + 1 => by
    rw [moreF, Bool.or_eq_true, more_iff l ps ls i]
    constructor
    · rintro (⟨j, a, b⟩ | h)
      · exact ⟨j, by omega, b⟩
      · exact ⟨i, by omega, h⟩
    · rintro ⟨j, a, b⟩
      by_cases e : j = i
      · subst e; exact .inr b
      · exact .inl ⟨j, by omega, b⟩
/-- How many are long. -/
def cnt (ls : List Bool) : Nat → Nat
  | 0 => 0
  | i + 1 => cnt ls i + if ls.getD i false = true then 1 else 0
theorem cnt_le (ls : List Bool) : ∀ i, cnt ls i ≤ i
  | 0 => Nat.le_refl _
  | i + 1 => by have := cnt_le ls i; rw [cnt]; split <;> omega
theorem cnt_mono {ls ls' : List Bool} (h : ∀ j, ls.getD j false = true → ls'.getD j false = true) : ∀ i, cnt ls i ≤ cnt ls' i
  | 0 => Nat.le_refl _
  | i + 1 => by
    have := cnt_mono h i
    rw [cnt, cnt]
    by_cases e : ls.getD i false = true
    · rw [if_pos e, if_pos (h _ e)]; omega
    · rw [if_neg e]; omega
theorem cnt_lt {ls ls' : List Bool} (h : ∀ j, ls.getD j false = true → ls'.getD j false = true) {j : Nat} (h1 : ls.getD j false = false) (h2 : ls'.getD j false = true) : ∀ i, j < i → cnt ls i < cnt ls' i
  | 0, hi => by omega
  | i + 1, hi => by
    rw [cnt, cnt]
    by_cases e : j = i
    · have := cnt_mono h i
      subst e
      rw [h1, if_pos h2, if_neg (by decide)]; omega
    · have := cnt_lt h h1 h2 i (by omega)
      by_cases e : ls.getD i false = true
      · rw [if_pos e, if_pos (h _ e)]; omega
      · rw [if_neg e]; omega
/-- What is long is a question, and would be too far away if it were short. -/
def Need (l : List S40) (ls : List Bool) : Prop := ∀ i, i < l.length → ls.getD i false = true → (at_ l i).f0 = 3 ∧ farM l (ls.set i false) i > 255
theorem need_grow {l : List S40} (hF : Fine l) {ls : List Bool} (hls : ls.length = l.length) (h : Need l ls) : Need l (growF l (places l ls) ls l.length) := by
  intro i hi hg
  have hgl : (growF l (places l ls) ls l.length).length = l.length := by rw [grow_len]; exact hls
  have G := fun j => grow_get l (places l ls) ls j l.length (by omega)
  by_cases c : ls.getD i false = true
  · obtain ⟨h3, hf⟩ := h i hi c
    refine ⟨h3, ?_⟩
    have := farM_mono hF (ls := ls.set i false) (ls' := (growF l (places l ls) ls l.length).set i false) (fun j hj => ?_) hi h3
    · omega
    · rw [setB (by omega)] at hj ⊢
      by_cases e : j = i
      · rw [if_pos e] at hj; cases hj
      · rw [if_neg e] at hj ⊢; exact (G j).2 (.inl hj)
  · rcases (G i).1 hg with h' | ⟨_, h'⟩
    · exact absurd h' c
    obtain ⟨h3, h0, hf⟩ := (too_iff hF ls hi).1 h'
    refine ⟨h3, ?_⟩
    have := farM_mono hF (ls := ls) (ls' := (growF l (places l ls) ls l.length).set i false) (fun j hj => ?_) hi h3
    · omega
    · rw [setB (by omega)]
      by_cases e : j = i
      · rw [e] at hj; exact absurd hj c
      · rw [if_neg e]; exact (G j).2 (.inl hj)
/-- The questions that are long in the end. -/
structure Done (l : List S40) (R : List Bool) : Prop where
  len : R.length = l.length
  need : Need l R
  rest : moreF l (places l R) R l.length = false
theorem Done.short {l : List S40} {R : List Bool} (h : Done l R) {i : Nat} (hi : i < l.length) (h3 : (at_ l i).f0 ≠ 3) : R.getD i false = false := by
  cases c : R.getD i false with
  | false => rfl
  | true => exact absurd (h.need i hi c).1 h3
theorem Done.ask {l : List S40} {R : List Bool} (h : Done l R) (hF : Fine l) {i : Nat} (hi : i < l.length) (h3 : (at_ l i).f0 = 3) : R.getD i false = decide (farM l (R.set i false) i > 255) := by
  cases c : R.getD i false with
  | true => rw [decide_eq_true (h.need i hi c).2]
  | false =>
    have hm := h.rest
    have : ¬ farM l R i > 255 := fun hf => by
      rw [(more_iff l (places l R) R l.length).2 ⟨i, hi, (too_iff hF R hi).2 ⟨h3, c, hf⟩⟩] at hm; cases hm
    have hle := farM_mono hF (ls := R.set i false) (ls' := R) (fun j hj => by
      rw [setB (by rw [h.len]; exact hi)] at hj
      by_cases e : j = i
      · rw [if_pos e] at hj; cases hj
      · rw [if_neg e] at hj; exact hj) hi h3
    rw [decide_eq_false (by omega)]

end Go.Proofs.Ytmjpibeiglicdaa.EmitP
