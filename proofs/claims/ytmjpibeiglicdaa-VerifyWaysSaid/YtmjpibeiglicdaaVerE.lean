/- Plain laws of layer 6: a filter, told part by part; where it goes on; a filter behind what loads; a filter with a return behind it. -/
import Derived.Test.YtmjpibeiglicdaaVerD
namespace Go.Proofs.Ytmjpibeiglicdaa.Ver
open Go.RowKit Go.Proofs.Ytmjpibeiglicdaa.X Go.Proofs.YtmjpibeiglicdaaW.PrintWords Go.Proofs.YtmjpibeiglicdaaW.PrintLast Go.Proofs.YtmjpibeiglicdaaW.PrintMore
open Go.Proofs.Ytmjpibeiglicdaa.Code (kindOf codes)

theorem scan_zero (l : List S56) (A : List Int) : ∀ d i, (scan l A d i).2 = 0 ↔ ∀ j, i ≤ j → j < i + d → ¬ ((kindOf (at_ l j).f0 = 4 ∨ kindOf (at_ l j).f0 = 6) ∧ Go.bits .and .u16 (shr .u16 (rd A (j : Int)) (at_ l j).f3) 1 = 0)
  | 0, i => by simp only [scan, true_iff]; intro j h1 h2; omega
  | d + 1, i => by
    rw [scan]
    by_cases c : (kindOf (at_ l i).f0 = 4 ∨ kindOf (at_ l i).f0 = 6) ∧ Go.bits .and .u16 (shr .u16 (rd A (i : Int)) (at_ l i).f3) 1 = 0
    · rw [if_pos c]
      constructor
      · intro H
        have H : (10 : Int) = 0 := H
        omega
      · intro H; exact absurd c (H i (by omega) (by omega))
    · rw [if_neg c, scan_zero l A d (i + 1)]
      constructor
      · intro H j h1 h2
        by_cases e : j = i
        · rw [e]; exact c
        · exact H j (by omega) (by omega)
      · intro H j h1 h2; exact H j (by omega) (by omega)

/-- A filter, told part by part. -/
structure Filter (l : List S56) : Prop where
  pos : 0 < l.length
  most : l.length ≤ 4096
  fine : Fine l
  last : kindOf (at_ l (l.length - 1)).f0 = 13 ∨ kindOf (at_ l (l.length - 1)).f0 = 14
  reads : ∀ i, i < l.length → (kindOf (at_ l i).f0 = 4 ∨ kindOf (at_ l i).f0 = 6) → (bareS l (at_ l i).f3.toNat l.length).getD i false = false

theorem read_bit {l : List S56} (h : Ok l) (hF : Fine l) (hw : (whole l).2 = 0) {i : Nat} (hi : i < l.length) (hk : kindOf (at_ l i).f0 = 4 ∨ kindOf (at_ l i).f0 = 6) :
    Go.bits .and .u16 (shr .u16 (rd (written l) (i : Int)) (at_ l i).f3) 1 = 0 ↔ (bareS l (at_ l i).f3.toNat l.length).getD i false = true := by
  have hK := fine_word hF hi (by omega)
  obtain ⟨a0, a1, b0, b1, c0, c1, d0, d1⟩ := h.at_ i
  obtain ⟨q, hq⟩ : ∃ q : Nat, (at_ l i).f3 = (q : Int) := ⟨(at_ l i).f3.toNat, by omega⟩
  have hr : rd (written l) (i : Int) = num fun w => !(bareS l w l.length).getD i false := by
    unfold written; rw [if_pos hw]; exact rep_rd _ _ _ hi
  rw [hq] at hK ⊢
  rw [hr, num_read _ q (by omega), Int.toNat_natCast]
  simp

theorem check_iff {l : List S56} (h : Ok l) : (check l).2 = 0 ↔ Filter l := by
  unfold check
  by_cases c : (whole l).2 = 0
  · obtain ⟨hn, hm, hF, _⟩ := whole_fine c
    rw [if_pos c]
    by_cases q : kindOf (at_ l (l.length - 1)).f0 = 13 ∨ kindOf (at_ l (l.length - 1)).f0 = 14
    · rw [if_pos q, scan_zero]
      constructor
      · intro H
        refine ⟨hn, hm, hF, q, fun i hi hk => ?_⟩
        have h1 := H i (by omega) (by omega)
        have e := read_bit h hF c hi hk
        by_cases z : (bareS l (at_ l i).f3.toNat l.length).getD i false = true
        · exact absurd ⟨hk, e.2 z⟩ h1
        · exact Bool.eq_false_iff.2 z
      · intro H j _ hj ⟨hk, hb⟩
        have h1 := H.reads j (by omega) hk
        rw [(read_bit h hF c (by omega) hk).1 hb] at h1
        cases h1
    · rw [if_neg q]
      constructor
      · intro H
        have H : (12 : Int) = 0 := H
        omega
      · intro H; exact absurd H.last q
  · rw [if_neg c]
    constructor
    · intro H; exact absurd H c
    · intro H
      exfalso; apply c
      have hp := H.pos
      have hm := H.most
      unfold whole
      rw [if_neg (by omega), if_neg (by omega)]
      exact (bad_zero l l.length 0).2 fun j _ hj => H.fine j (by omega)

/-- Where a filter goes on: behind the place, and within it. -/
theorem tgt_in {l : List S56} (h : Ok l) (H : Filter l) {i : Nat} (hi : i < l.length) (hk : ¬ (kindOf (at_ l i).f0 = 13 ∨ kindOf (at_ l i).f0 = 14)) :
    0 < (tgt l i).length ∧ ∀ t ∈ tgt l i, i < t ∧ t < l.length := by
  have e := H.fine i hi
  obtain ⟨a0, a1, b0, b1, c0, c1, d0, d1⟩ := h.at_ i
  unfold errAt locE at e
  unfold tgt jmp
  by_cases k11 : kindOf (at_ l i).f0 = 11
  · rw [if_neg (by omega), if_neg (by omega), if_neg (by omega), if_neg (by omega), if_pos k11] at e
    rw [if_pos k11]
    by_cases z : (i : Int) + 1 + (at_ l i).f3 ≥ (l.length : Int)
    · rw [if_pos z] at e; omega
    · refine ⟨by simp, fun t ht => ?_⟩
      simp only [List.map_cons, List.map_nil, List.mem_singleton] at ht
      omega
  · rw [if_neg k11]
    by_cases k12 : kindOf (at_ l i).f0 = 12
    · rw [if_neg (by omega), if_neg (by omega), if_neg (by omega), if_neg (by omega), if_neg k11, if_pos k12] at e
      rw [if_pos k12]
      by_cases z : (i : Int) + 1 + (at_ l i).f1 ≥ (l.length : Int) ∨ (i : Int) + 1 + (at_ l i).f2 ≥ (l.length : Int)
      · rw [if_pos z] at e; omega
      · refine ⟨by simp, fun t ht => ?_⟩
        simp only [List.map_cons, List.map_nil, List.mem_cons, List.not_mem_nil, or_false] at ht
        omega
    · rw [if_neg k12, if_neg (by omega), if_neg (by omega)]
      have hne : i ≠ l.length - 1 := fun e' => hk (by rw [e']; exact H.last)
      refine ⟨by simp, fun t ht => ?_⟩
      simp only [List.map_cons, List.map_nil, List.mem_singleton] at ht
      omega
theorem tgt_ret {l : List S56} {i : Nat} (hk : kindOf (at_ l i).f0 = 13 ∨ kindOf (at_ l i).f0 = 14) : tgt l i = [] := by
  unfold tgt jmp
  rw [if_neg (by omega), if_neg (by omega)]
  rcases hk with h | h
  · rw [if_pos h]; rfl
  · rw [if_neg (by omega), if_pos h]; rfl

theorem st_kind {l : List S56} {w i : Nat} (h : ¬ (kindOf (at_ l i).f0 = 8 ∨ kindOf (at_ l i).f0 = 9)) : st l w i = false := by
  unfold st; rw [decide_eq_false h, Bool.false_and]

/-! ### A filter behind one that loads -/
/-- What loads, and jumps nowhere else. -/
def Loads (x : S56) : Prop := kindOf x.f0 = 3 ∨ kindOf x.f0 = 5 ∨ kindOf x.f0 = 2 ∨ kindOf x.f0 = 7 ∨ kindOf x.f0 = 15 ∨ kindOf x.f0 = 16
theorem at_cons (x : S56) (r : List S56) (i : Nat) : at_ (x :: r) (i + 1) = at_ r i := by simp [at_]
theorem at_head (x : S56) (r : List S56) : at_ (x :: r) 0 = x := rfl
theorem loc_shift (n i : Nat) (x : S56) : locE (n + 1) (i + 1) x = locE n i x := by
  unfold locE
  have e1 : (((i + 1 : Nat) : Int) + 1 + x.f3 ≥ ((n + 1 : Nat) : Int)) = ((i : Int) + 1 + x.f3 ≥ (n : Int)) := propext (by omega)
  have e2 : (((i + 1 : Nat) : Int) + 1 + x.f1 ≥ ((n + 1 : Nat) : Int)) = ((i : Int) + 1 + x.f1 ≥ (n : Int)) := propext (by omega)
  have e3 : (((i + 1 : Nat) : Int) + 1 + x.f2 ≥ ((n + 1 : Nat) : Int)) = ((i : Int) + 1 + x.f2 ≥ (n : Int)) := propext (by omega)
  simp only [e1, e2, e3]
theorem loc_loads (n i : Nat) {x : S56} (h : Loads x) : locE n i x = 0 := by
  unfold Loads at h
  unfold locE
  rw [if_neg (by omega), if_neg (by omega), if_neg (by omega), if_neg (by omega), if_neg (by omega), if_neg (by omega)]
theorem tgt_cons (x : S56) (r : List S56) (i : Nat) : tgt (x :: r) (i + 1) = (tgt r i).map (· + 1) := by
  unfold tgt
  rw [at_cons, List.map_map]
  refine List.map_congr_left fun j _ => ?_
  simp only [Function.comp]; omega
theorem tgt_loads {l : List S56} {i : Nat} (h : Loads (at_ l i)) : tgt l i = [i + 1] := by
  unfold Loads at h
  unfold tgt jmp
  rw [if_neg (by omega), if_neg (by omega), if_neg (by omega), if_neg (by omega)]
  rfl
theorem st_cons (x : S56) (r : List S56) (w i : Nat) : st (x :: r) w (i + 1) = st r w i := by unfold st; rw [at_cons]
theorem setT_cons (n : Nat) (a : Bool) : ∀ (ts : List Nat) (b : List Bool), setT (n + 1) (a :: b) (ts.map (· + 1)) = a :: setT n b ts
  | [], b => rfl
  | t :: r, b => by
    rw [List.map_cons, setT, setT]
    by_cases c : t < n
    · rw [if_pos (by omega), if_pos c, List.set_cons_succ]; exact setT_cons n a r _
    · rw [if_neg (by omega), if_neg c]; exact setT_cons n a r _
theorem bare_cons {x : S56} {r : List S56} (hx : Loads x) (hr : 0 < r.length) (w : Nat) : ∀ i, bareS (x :: r) w (i + 1) = true :: bareS r w i
  | 0 => by
    have hs : st (x :: r) w 0 = false := st_kind (by rw [at_head]; unfold Loads at hx; omega)
    have h0 : bareS (x :: r) w 0 = true :: List.replicate r.length false := rfl
    have h1 : bareS (x :: r) w (0 + 1) = if (bareS (x :: r) w 0).getD 0 false = true ∧ st (x :: r) w 0 = false then setT (x :: r).length (bareS (x :: r) w 0) (tgt (x :: r) 0) else bareS (x :: r) w 0 := rfl
    rw [h1, h0, if_pos ⟨rfl, hs⟩, tgt_loads (by rw [at_head]; exact hx)]
    show setT (r.length + 1) (true :: List.replicate r.length false) [0 + 1] = true :: (List.replicate r.length false).set 0 true
    rw [setT, setT, if_pos (by omega), List.set_cons_succ]
  | i + 1 => by
    have ih := bare_cons hx hr w i
    rw [bareS, ih, st_cons, tgt_cons, bareS]
    have e : (true :: bareS r w i).getD (i + 1) false = (bareS r w i).getD i false := by simp
    rw [e]
    by_cases c : (bareS r w i).getD i false = true ∧ st r w i = false
    · rw [if_pos c, if_pos c]; exact setT_cons r.length true (tgt r i) (bareS r w i)
    · rw [if_neg c, if_neg c]
theorem filter_cons {x : S56} {r : List S56} (hx : Loads x) (hr : r.length < 4096) : Filter (x :: r) ↔ Filter r := by
  by_cases z : r.length = 0
  · constructor
    · intro H
      have := H.last
      rw [show (x :: r).length - 1 = 0 by simp [z], at_head] at this
      unfold Loads at hx; omega
    · intro H; have := H.pos; omega
  · have hlen : (x :: r).length = r.length + 1 := rfl
    have hl : at_ (x :: r) ((x :: r).length - 1) = at_ r (r.length - 1) := by
      rw [hlen, show r.length + 1 - 1 = (r.length - 1) + 1 by omega, at_cons]
    have he : ∀ i, errAt (x :: r) (i + 1) = errAt r i := fun i => by unfold errAt; rw [at_cons, hlen, loc_shift]
    have hb : ∀ w i, (bareS (x :: r) w (x :: r).length).getD (i + 1) false = (bareS r w r.length).getD i false := fun w i => by
      rw [hlen, bare_cons hx (by omega)]; simp
    constructor
    · intro H
      refine ⟨by omega, by omega, fun i hi => ?_, by have := H.last; rwa [hl] at this, fun i hi hk => ?_⟩
      · rw [← he i]; exact H.fine (i + 1) (by omega)
      · have := H.reads (i + 1) (by omega) (by rw [at_cons]; exact hk)
        rw [at_cons, hb] at this; exact this
    · intro H
      refine ⟨by omega, by omega, fun i hi => ?_, by rw [hl]; exact H.last, fun i hi hk => ?_⟩
      · cases i with
        | zero => unfold errAt; rw [at_head]; exact loc_loads _ _ hx
        | succ i => rw [he i]; exact H.fine i (by omega)
      · cases i with
        | zero => rw [at_head] at hk; unfold Loads at hx; omega
        | succ i => rw [at_cons] at hk ⊢; rw [hb]; exact H.reads i (by omega) hk
theorem filter_append {r : List S56} : ∀ (p : List S56), (∀ x ∈ p, Loads x) → p.length + r.length ≤ 4096 → (Filter (p ++ r) ↔ Filter r)
  | [], _, _ => Iff.rfl
  | x :: p, hp, hl => by
    rw [List.length_cons] at hl
    rw [List.cons_append, filter_cons (hp x List.mem_cons_self) (by rw [List.length_append]; omega)]
    exact filter_append p (fun y hy => hp y (List.mem_cons_of_mem _ hy)) (by omega)

/-! ### A filter with a return behind it -/
theorem at_left {l : List S56} (e : S56) {i : Nat} (hi : i < l.length) : at_ (l ++ [e]) i = at_ l i := by
  unfold at_
  rw [List.getD_eq_getElem?_getD, List.getElem?_append_left hi, List.getD_eq_getElem?_getD]
theorem at_right (l : List S56) (e : S56) : at_ (l ++ [e]) l.length = e := by simp [at_]
theorem loc_more {n i : Nat} {x : S56} (h : locE n i x = 0) : locE (n + 1) i x = 0 := by
  unfold locE at h ⊢
  by_cases k11 : kindOf x.f0 = 11
  · rw [if_neg (by omega), if_neg (by omega), if_neg (by omega), if_neg (by omega), if_pos k11] at h ⊢
    by_cases z : (i : Int) + 1 + x.f3 ≥ (n : Int)
    · rw [if_pos z] at h; omega
    · rw [if_neg (by omega)]
  · by_cases k12 : kindOf x.f0 = 12
    · rw [if_neg (by omega), if_neg (by omega), if_neg (by omega), if_neg (by omega), if_neg k11, if_pos k12] at h ⊢
      by_cases z : (i : Int) + 1 + x.f1 ≥ (n : Int) ∨ (i : Int) + 1 + x.f2 ≥ (n : Int)
      · rw [if_pos z] at h; omega
      · rw [if_neg (by omega)]
    · rw [if_neg k11, if_neg k12] at h ⊢
      exact h
theorem tgt_left {l : List S56} (e : S56) {i : Nat} (hi : i < l.length) : tgt (l ++ [e]) i = tgt l i := by unfold tgt; rw [at_left e hi]
theorem st_left {l : List S56} (e : S56) (w : Nat) {i : Nat} (hi : i < l.length) : st (l ++ [e]) w i = st l w i := by unfold st; rw [at_left e hi]
theorem setT_snoc (n : Nat) (a : Bool) : ∀ (ts : List Nat) (b : List Bool), b.length = n → (∀ t ∈ ts, t < n) → setT (n + 1) (b ++ [a]) ts = setT n b ts ++ [a]
  | [], b, _, _ => rfl
  | t :: r, b, hb, h => by
    have ht := h t List.mem_cons_self
    rw [setT, setT, if_pos (by omega), if_pos ht, List.set_append_left _ _ (by omega)]
    exact setT_snoc n a r _ (by rw [List.length_set]; exact hb) (fun u hu => h u (List.mem_cons_of_mem _ hu))
theorem bare_snoc {l : List S56} (h : Ok l) (H : Filter l) (e : S56) (w : Nat) : ∀ i, i ≤ l.length → bareS (l ++ [e]) w i = bareS l w i ++ [false]
  | 0, _ => by
    have hp := H.pos
    rw [bareS, bareS, List.length_append, List.length_singleton, List.replicate_succ', List.set_append_left _ _ (by simpa using hp)]
  | i + 1, hi => by
    have ih := bare_snoc h H e w i (by omega)
    rw [bareS, ih, st_left e w (by omega), tgt_left e (by omega), bareS]
    have eg : (bareS l w i ++ [false]).getD i false = (bareS l w i).getD i false := by
      rw [List.getD_eq_getElem?_getD, List.getElem?_append_left (by rw [bare_len]; omega), List.getD_eq_getElem?_getD]
    rw [eg]
    by_cases c : (bareS l w i).getD i false = true ∧ st l w i = false
    · rw [if_pos c, if_pos c, List.length_append, List.length_singleton]
      refine setT_snoc l.length false _ _ (bare_len l w i) fun t ht => ?_
      by_cases k : kindOf (at_ l i).f0 = 13 ∨ kindOf (at_ l i).f0 = 14
      · rw [tgt_ret k] at ht; cases ht
      · exact ((tgt_in h H (by omega) k).2 t ht).2
    · rw [if_neg c, if_neg c]
theorem filter_snoc {l : List S56} (h : Ok l) (H : Filter l) (hl : l.length < 4096) {e : S56} (he : kindOf e.f0 = 13) : Filter (l ++ [e]) := by
  have hlen : (l ++ [e]).length = l.length + 1 := by simp
  refine ⟨by omega, by omega, fun i hi => ?_, ?_, fun i hi hk => ?_⟩
  · unfold errAt
    rw [hlen]
    by_cases c : i < l.length
    · rw [at_left e c]; exact loc_more (H.fine i c)
    · rw [show i = l.length by omega, at_right]
      unfold locE
      rw [if_neg (by omega), if_neg (by omega), if_neg (by omega), if_neg (by omega), if_neg (by omega), if_neg (by omega)]
  · rw [hlen, Nat.add_sub_cancel, at_right]; exact .inl he
  · by_cases c : i < l.length
    · rw [at_left e c] at hk ⊢
      have h1 := H.reads i c hk
      have e1 := bare_fixed l (at_ l i).f3.toNat i (l.length - i)
      have e2 := bare_fixed (l ++ [e]) (at_ l i).f3.toNat i (l.length + 1 - i)
      rw [show i + (l.length - i) = l.length by omega] at e1
      rw [show i + (l.length + 1 - i) = l.length + 1 by omega, bare_snoc h H e _ i (by omega)] at e2
      rw [hlen, e2, List.getD_eq_getElem?_getD, List.getElem?_append_left (by rw [bare_len]; omega), ← List.getD_eq_getElem?_getD, ← e1]
      exact h1
    · rw [show i = l.length by omega, at_right] at hk; omega
end Go.Proofs.Ytmjpibeiglicdaa.Ver
