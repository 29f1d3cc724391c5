/- Plain laws of layer 23: items that are fine, and where their labels are marked. -/
import Derived.Test.YtmjpibeiglicdaaRefE
namespace Go.Proofs.Ytmjpibeiglicdaa.EmitP
open Go.RowKit Go.Proofs.Ytmjpibeiglicdaa.E Go.Proofs.YtmjpibeiglicdaaU.PrintWords Go.Proofs.YtmjpibeiglicdaaU.PrintLast Go.Proofs.YtmjpibeiglicdaaU.PrintMore
open Go.Proofs.Ytmjpibeiglicdaa.MapI (wf upd)
open Go.Proofs.Ytmjpibeiglicdaa.Code (kindOf codes)
open Go.Proofs.Ytmjpibeiglicdaa.EmitB
open Go.Proofs.Ytmjpibeiglicdaa.RefE (ws wn isM findM mark_spec formed loc2 locE badI lastE checkE)

/-! ### Items as the document has them -/
def toI (x : S40) : S38 := ⟨x.f0, x.f1, x.f2, x.f3, x.f4⟩
theorem take_snoc {α : Type} (l : List α) (i : Nat) (z : α) (h : i < l.length) : l.take i ++ [l.getD i z] = l.take (i + 1) := by
  rw [List.take_succ_eq_append_getElem h, List.getD_eq_getElem?_getD, List.getElem?_eq_getElem h]; rfl
theorem Own_loop (l : List S40) (hl : l.length ≤ 1000000) : ∀ d i, i + d = l.length → Ev (fun k => tamislaw23_Own.l0 k ((l.take i).map toI) l (l.length : Int) (i : Int)) (l.map toI)
  | 0, i, hi => by
    refine Ev.step (fun k => by rw [tamislaw23_Own.l0, if_neg (by omega)]) ?_
    rw [List.take_of_length_le (by omega)]; exact Ev.now _
  | d + 1, i, hi => by
    have ih := Own_loop l hl d (i + 1) (by omega)
    rw [← take_snoc l i z40 (by omega), List.map_append] at ih
    refine Ev.step (fun k => by rw [tamislaw23_Own.l0, if_pos (by omega), if_pos (by omega), if_pos (by omega), if_pos (by rw [List.length_map, List.length_take]; omega), wn i (by omega)]) ?_
    exact ih
theorem Own_ev (l : List S40) (hl : l.length ≤ 1000000) : Ev (fun k => tamislaw23_Own.f k l) (l.map toI) := Own_loop l hl l.length 0 (by omega)
theorem ref_at (l : List S40) (i : Nat) : RefE.at_ (l.map toI) i = toI (at_ l i) := by
  unfold RefE.at_ at_
  rw [List.getD_eq_getElem?_getD, List.getElem?_map, List.getD_eq_getElem?_getD]
  cases l[i]? <;> rfl

/-! ### Where labels are marked -/
def atM (l : List S40) (i : Nat) (t : Int) : Prop := (at_ l i).f0 = 4 ∧ (at_ l i).f3 = t
theorem isM_iff (l : List S40) (i : Nat) (t : Int) : isM (RefE.at_ (l.map toI) i) t = true ↔ atM l i t := by
  rw [ref_at]
  unfold isM atM
  simp only [Bool.and_eq_true, decide_eq_true_eq]; rfl
theorem seen_iff (l : List S40) (t : Int) : ∀ i : Nat, (seenM l i t).getD 0 ≥ 1 ↔ ∃ j, j < i ∧ atM l j t
  | 0 => by
    constructor
    · intro h; exact absurd h (by show ¬ ((none : Option Int).getD 0 ≥ 1); decide)
    · rintro ⟨j, h, _⟩; omega
  | i + 1 => by
    have ih := seen_iff l t i
    have go : (¬ atM l i t) → ((∃ j, j < i ∧ atM l j t) ↔ ∃ j, j < i + 1 ∧ atM l j t) := fun hn =>
      ⟨fun ⟨j, h, m⟩ => ⟨j, by omega, m⟩, fun ⟨j, h, m⟩ => by
        by_cases ej : j = i
        · subst ej; exact absurd m hn
        · exact ⟨j, by omega, m⟩⟩
    rw [seenM]
    by_cases c : (at_ l i).f0 = 4
    · rw [if_pos c]
      unfold upd
      by_cases e : t = (at_ l i).f3
      · have := seen_range l (at_ l i).f3 i
        rw [if_pos e, Option.getD_some]
        exact ⟨fun _ => ⟨i, by omega, c, e.symm⟩, fun _ => by omega⟩
      · rw [if_neg e, ih]
        exact go (fun m => e m.2.symm)
    · rw [if_neg c, ih]
      exact go (fun m => c m.1)
theorem last_spec (l : List S40) (t : Int) : ∀ n : Nat, (lastM l n t = none ∧ ∀ j, j < n → ¬ atM l j t) ∨ ∃ p : Nat, p < n ∧ lastM l n t = some (p : Int) ∧ atM l p t ∧ ∀ j, p < j → j < n → ¬ atM l j t
  | 0 => .inl ⟨rfl, fun j h => by omega⟩
  | n + 1 => by
    have ih := last_spec l t n
    have go : (¬ atM l n t) → lastM l (n + 1) t = lastM l n t → ((lastM l (n + 1) t = none ∧ ∀ j, j < n + 1 → ¬ atM l j t) ∨ ∃ p : Nat, p < n + 1 ∧ lastM l (n + 1) t = some (p : Int) ∧ atM l p t ∧ ∀ j, p < j → j < n + 1 → ¬ atM l j t) := by
      intro hn he
      rw [he]
      rcases ih with ⟨h1, h2⟩ | ⟨p, h1, h2, h3, h4⟩
      · refine .inl ⟨h1, fun j h => ?_⟩
        by_cases e : j = n
        · rw [e]; exact hn
        · exact h2 j (by omega)
      · refine .inr ⟨p, by omega, h2, h3, fun j a b => ?_⟩
        by_cases e : j = n
        · rw [e]; exact hn
        · exact h4 j a (by omega)
    by_cases c : (at_ l n).f0 = 4
    · by_cases e : t = (at_ l n).f3
      · exact .inr ⟨n, by omega, by rw [lastM, if_pos c]; unfold upd; rw [if_pos e], ⟨c, e.symm⟩, fun j a b => by omega⟩
      · exact go (fun m => e m.2.symm) (by rw [lastM, if_pos c]; unfold upd; rw [if_neg e])
    · exact go (fun m => c m.1) (by rw [lastM, if_neg c])
/-- A mark of t at i or behind it. -/
def Has (l : List S40) (i : Nat) (t : Int) : Prop := ∃ j, i ≤ j ∧ j < l.length ∧ atM l j t
theorem lost_iff (l : List S40) (i : Nat) (t : Int) : lost l i t = false ↔ Has l i t := by
  unfold lost Has
  rcases last_spec l t l.length with ⟨h1, h2⟩ | ⟨p, h1, h2, h3, h4⟩
  · rw [h1]
    constructor
    · intro h; exact absurd h (by simp)
    · rintro ⟨j, _, a, b⟩; exact absurd b (h2 j a)
  · rw [h2]
    simp only [Option.isSome_some, Bool.not_true, Option.getD_some, Bool.false_or, decide_eq_false_iff_not]
    constructor
    · intro h; exact ⟨p, by omega, h1, h3⟩
    · rintro ⟨j, a, b, c⟩ h
      exact h4 j (by omega) b c
theorem mark_iff (l : List S40) (i : Nat) (t : Int) : ¬ RefE.mark (l.map toI) t i < 0 ↔ Has l i t := by
  rcases mark_spec (l.map toI) t i with ⟨h1, h2⟩ | ⟨j, h1, h2, h3, h4, _⟩
  · rw [h1]
    constructor
    · intro h; exact absurd (by decide) h
    · rintro ⟨j, a, b, c⟩
      have := h2 j a (by rw [List.length_map]; exact b)
      rw [(isM_iff l j t).2 c] at this; cases this
  · rw [h1]
    rw [List.length_map] at h3
    exact ⟨fun _ => ⟨j, h2, h3, (isM_iff l j t).1 h4⟩, fun _ => by omega⟩

/-! ### What is wrong with an item -/
theorem formed_eq (x : S40) : formed (toI x) = formedB x := rfl
theorem step_eq (l : List S40) (i : Nat) (hi : i < l.length) : locE (l.map toI) i (RefE.at_ (l.map toI) i) = stepE l i := by
  unfold locE stepE
  rw [ref_at, formed_eq]
  by_cases c0 : formedB (at_ l i) = false
  · rw [if_pos c0, if_pos c0]
  rw [if_neg c0, if_neg c0]
  have e1 : ((toI (at_ l i)).f0 = 4 ∧ RefE.mark (l.map toI) (toI (at_ l i)).f3 0 < (i : Int)) ↔ ((at_ l i).f0 = 4 ∧ (seenM l i (at_ l i).f3).getD 0 ≥ 1) := by
    refine and_congr_right (fun h4 => ?_)
    have h4 : (at_ l i).f0 = 4 := h4
    rw [seen_iff]
    show RefE.mark (l.map toI) (at_ l i).f3 0 < (i : Int) ↔ _
    rcases mark_spec (l.map toI) (at_ l i).f3 0 with ⟨h1, h2⟩ | ⟨j, h1, h2, h3, h5, h6⟩
    · have := h2 i (Nat.zero_le _) (by rw [List.length_map]; exact hi)
      rw [(isM_iff l i _).2 ⟨h4, rfl⟩] at this; cases this
    · rw [h1]
      constructor
      · intro h; exact ⟨j, by omega, (isM_iff l j _).1 h5⟩
      · rintro ⟨m, a, b⟩
        by_cases c : m < j
        · have := h6 m (Nat.zero_le _) c
          rw [(isM_iff l m _).2 b] at this; cases this
        · omega
  by_cases c1 : (at_ l i).f0 = 4 ∧ (seenM l i (at_ l i).f3).getD 0 ≥ 1
  · rw [if_pos c1, if_pos (e1.2 c1)]
  rw [if_neg c1, if_neg (fun h => c1 (e1.1 h))]
  unfold loc2 targetsL
  show (if ((at_ l i).f0 = 2 ∨ (at_ l i).f0 = 3) ∧ RefE.mark (l.map toI) (at_ l i).f3 i < 0 ∨ (at_ l i).f0 = 3 ∧ RefE.mark (l.map toI) (at_ l i).f4 i < 0 then (15 : Int) else 0) = _
  have m3 := mark_iff l i (at_ l i).f3
  have m4 := mark_iff l i (at_ l i).f4
  have l3 := lost_iff l i (at_ l i).f3
  have l4 := lost_iff l i (at_ l i).f4
  have g3 : RefE.mark (l.map toI) (at_ l i).f3 i < 0 ↔ lost l i (at_ l i).f3 = true := by
    rw [← Decidable.not_iff_not, m3, ← l3, Bool.not_eq_true]
  have g4 : RefE.mark (l.map toI) (at_ l i).f4 i < 0 ↔ lost l i (at_ l i).f4 = true := by
    rw [← Decidable.not_iff_not, m4, ← l4, Bool.not_eq_true]
  simp only [g3, g4]
  by_cases c2 : (at_ l i).f0 = 2
  · simp [c2]
  · by_cases c3 : (at_ l i).f0 = 3
    · simp [c3]
    · simp [c2, c3]
theorem scan_eq (l : List S40) : ∀ d i, i + d = l.length → (if (badI (l.map toI) d i).2 = 0 then lastE (l.map toI) else badI (l.map toI) d i) = scanE l d i
  | 0, i, hi => by
    rw [show (badI (l.map toI) 0 i).2 = 0 from rfl, if_pos rfl, scanE]
    unfold lastE
    rw [List.length_map, ref_at]; rfl
  | d + 1, i, hi => by
    have ih := scan_eq l d (i + 1) (by omega)
    rw [badI, scanE, step_eq l i (by omega)]
    by_cases c : stepE l i = 0
    · rw [if_pos c, if_pos c]; exact ih
    · rw [if_neg c, if_neg c, if_neg (show ¬ ((i : Int), stepE l i).2 = 0 from c)]
theorem chk_ref (l : List S40) : checkE (l.map toI) = chk l := by
  unfold checkE chk
  rw [List.length_map, scan_eq l l.length 0 (by omega)]

/-! ### Items that are fine -/
structure FineAt (l : List S40) (i : Nat) : Prop where
  form : formedB (at_ l i) = true
  once : (at_ l i).f0 = 4 → ∀ j, j < i → ¬ atM l j (at_ l i).f3
  yes : (at_ l i).f0 = 2 ∨ (at_ l i).f0 = 3 → Has l i (at_ l i).f3
  no : (at_ l i).f0 = 3 → Has l i (at_ l i).f4
theorem step_iff (l : List S40) (i : Nat) : stepE l i = 0 ↔ FineAt l i := by
  have l3 := lost_iff l i (at_ l i).f3
  have l4 := lost_iff l i (at_ l i).f4
  have hs := seen_iff l (at_ l i).f3 i
  unfold stepE
  by_cases c0 : formedB (at_ l i) = false
  · rw [if_pos c0]; exact ⟨fun h => absurd h (by decide), fun h => by rw [h.form] at c0; cases c0⟩
  rw [if_neg c0]
  have c0 : formedB (at_ l i) = true := by simpa using c0
  by_cases c1 : (at_ l i).f0 = 4 ∧ (seenM l i (at_ l i).f3).getD 0 ≥ 1
  · rw [if_pos c1]
    refine ⟨fun h => absurd h (by decide), fun h => ?_⟩
    obtain ⟨j, a, b⟩ := hs.1 c1.2
    exact absurd b (h.once c1.1 j a)
  rw [if_neg c1]
  have hon : (at_ l i).f0 = 4 → ∀ j, j < i → ¬ atM l j (at_ l i).f3 := fun h4 j a b => c1 ⟨h4, hs.2 ⟨j, a, b⟩⟩
  unfold targetsL
  by_cases c2 : (at_ l i).f0 = 2
  · rw [if_pos c2]
    cases e : lost l i (at_ l i).f3 with
    | true => exact ⟨fun h => absurd h (by simp [e]), fun h => by rw [l3.2 (h.yes (.inl c2))] at e; cases e⟩
    | false => exact ⟨fun _ => ⟨c0, hon, fun _ => l3.1 e, fun h => by omega⟩, fun _ => by simp [e]⟩
  · rw [if_neg c2]
    by_cases c3 : (at_ l i).f0 = 3
    · rw [if_pos c3]
      cases e : lost l i (at_ l i).f3 with
      | true => exact ⟨fun h => absurd h (by simp [e]), fun h => by rw [l3.2 (h.yes (.inr c3))] at e; cases e⟩
      | false =>
        cases e' : lost l i (at_ l i).f4 with
        | true => exact ⟨fun h => absurd h (by simp [e']), fun h => by rw [l4.2 (h.no c3)] at e'; cases e'⟩
        | false => exact ⟨fun _ => ⟨c0, hon, fun _ => l3.1 e, fun _ => l4.1 e'⟩, fun _ => by simp [e, e']⟩
    · rw [if_neg c3]
      exact ⟨fun _ => ⟨c0, hon, fun h => by omega, fun h => by omega⟩, fun _ => by simp⟩
structure Fine (l : List S40) : Prop where
  pos : 0 < l.length
  len : l.length ≤ 65536
  last : (at_ l (l.length - 1)).f0 = 1
  each : ∀ i, i < l.length → FineAt l i
theorem scan_zero (l : List S40) : ∀ d i, (scanE l d i).2 = 0 ↔ ((at_ l (l.length - 1)).f0 = 1 ∧ ∀ j, i ≤ j → j < i + d → stepE l j = 0)
  | 0, i => by
    rw [scanE]
    by_cases c : (at_ l (l.length - 1)).f0 = 1
    · rw [if_pos c]; exact ⟨fun _ => ⟨c, fun j a b => by omega⟩, fun _ => rfl⟩
    · rw [if_neg c]; exact ⟨fun h => absurd h (by simp), fun h => absurd h.1 c⟩
  | d + 1, i => by
    rw [scanE]
    by_cases c : stepE l i = 0
    · rw [if_pos c, scan_zero l d (i + 1)]
      refine and_congr_right (fun _ => ⟨fun H j a b => ?_, fun H j a b => H j (by omega) (by omega)⟩)
      by_cases e : j = i
      · rw [e]; exact c
      · exact H j (by omega) (by omega)
    · rw [if_neg c]
      exact ⟨fun h => absurd h c, fun h => absurd (h.2 i (Nat.le_refl _) (by omega)) c⟩
theorem fine_iff (l : List S40) : (chk l).2 = 0 ↔ Fine l := by
  unfold chk
  by_cases c0 : l.length = 0
  · rw [if_pos c0]; exact ⟨fun h => absurd h (by simp), fun h => by have := h.pos; omega⟩
  rw [if_neg c0]
  by_cases c1 : l.length > 65536
  · rw [if_pos c1]; exact ⟨fun h => absurd h (by simp), fun h => by have := h.len; omega⟩
  rw [if_neg c1, scan_zero]
  exact ⟨fun h => ⟨by omega, by omega, h.1, fun i hi => (step_iff l i).1 (h.2 i (Nat.zero_le _) (by omega))⟩, fun h => ⟨h.last, fun j _ b => (step_iff l j).2 (h.each j (by omega))⟩⟩
theorem fine_chk {l : List S40} (h : Fine l) : chk l = (0, 0) := by
  rw [chk_end h.pos h.len (fun j hj => (step_iff l j).2 (h.each j hj)), if_pos h.last]
theorem Fine.one {l : List S40} (h : Fine l) {t : Int} {i j : Nat} (hi : i < l.length) (hj : j < l.length) (mi : atM l i t) (mj : atM l j t) : i = j := by
  rcases Nat.lt_trichotomy i j with c | c | c
  · exact absurd (show atM l i (at_ l j).f3 from ⟨mi.1, by rw [mi.2, mj.2]⟩) ((h.each j hj).once mj.1 i c)
  · exact c
  · exact absurd (show atM l j (at_ l i).f3 from ⟨mj.1, by rw [mi.2, mj.2]⟩) ((h.each i hi).once mi.1 j c)
/-- A label that is marked at i or behind it: there is one place. -/
theorem Fine.place {l : List S40} (h : Fine l) {t : Int} {i : Nat} (hh : Has l i t) : RefE.mark (l.map toI) t i = (lastP l t : Int) ∧ i ≤ lastP l t ∧ lastP l t < l.length ∧ atM l (lastP l t) t := by
  obtain ⟨j, a, b, c⟩ := hh
  have e : lastP l t = j := by
    unfold lastP
    rcases last_spec l t l.length with ⟨h1, h2⟩ | ⟨p, h1, h2, h3, h4⟩
    · exact absurd c (h2 j b)
    · rw [h2, Option.getD_some, Int.toNat_natCast]
      exact h.one h1 b h3 c
  rw [e]
  refine ⟨?_, a, b, c⟩
  rcases mark_spec (l.map toI) t i with ⟨h1, h2⟩ | ⟨m, h1, h2, h3, h4, _⟩
  · have := h2 j a (by rw [List.length_map]; exact b)
    rw [(isM_iff l j t).2 c] at this; cases this
  · rw [h1]
    rw [List.length_map] at h3
    rw [h.one h3 b ((isM_iff l m t).1 h4) c]
end Go.Proofs.Ytmjpibeiglicdaa.EmitP
