/- Plain laws of layer 6: what is written for sure ahead of each, and whether it is a filter, as the program and the document tell it. -/
import Derived.Test.YtmjpibeiglicdaaVerB
import Derived.Test.YtmjpibeiglicdaaX9
namespace Go.Proofs.Ytmjpibeiglicdaa.Ver
open Go.RowKit Go.Proofs.Ytmjpibeiglicdaa.X Go.Proofs.YtmjpibeiglicdaaW.PrintWords Go.Proofs.YtmjpibeiglicdaaW.PrintLast Go.Proofs.YtmjpibeiglicdaaW.PrintMore
open Go.Proofs.Ytmjpibeiglicdaa.Code (kindOf codes)

/-- A row of words of 16 bits: bit w of word t is 'not B w t'. -/
def rep (n : Nat) (B : Nat → List Bool) : List Int := (List.range n).map fun t => num fun w => !(B w).getD t false
theorem rep_len (n : Nat) (B : Nat → List Bool) : (rep n B).length = n := by simp [rep]
theorem rep_rd (n : Nat) (B : Nat → List Bool) (t : Nat) (ht : t < n) : rd (rep n B) (t : Int) = num fun w => !(B w).getD t false := by
  simp [rd, rep, ht]
theorem num_congr {g h : Nat → Bool} (e : ∀ j, j < 16 → g j = h j) : num g = num h := by unfold num; rw [numN_congr e]
theorem rep_set (n : Nat) (B : Nat → List Bool) (hB : ∀ w, (B w).length = n) (now : Nat → Bool) (t : Nat) (ht : t < n) :
    (rep n B).set t (Go.bits .and .u16 (rd (rep n B) (t : Int)) (num now)) = rep n fun w => if now w then B w else (B w).set t true := by
  rw [rep_rd n B t ht, num_and]
  apply List.ext_getElem
  · simp [rep]
  · intro j h1 h2
    have hj : j < n := by simpa [rep] using h2
    rw [List.getElem_set]
    by_cases e : t = j
    · subst e
      rw [if_pos rfl]
      simp only [rep, List.getElem_map, List.getElem_range]
      refine num_congr fun w _ => ?_
      cases hn : now w
      · rw [if_neg (by decide), Bool.and_false]
        have : ((B w).set t true).getD t false = true := by
          rw [List.getD_eq_getElem?_getD, List.getElem?_set_self (by rw [hB]; exact hj)]; rfl
        rw [this]; rfl
      · rw [if_pos rfl, Bool.and_true]
    · rw [if_neg e]
      simp only [rep, List.getElem_map, List.getElem_range]
      refine num_congr fun w _ => ?_
      cases hn : now w
      · rw [if_neg (by decide)]
        have : ((B w).set t true).getD j false = (B w).getD j false := by
          rw [List.getD_eq_getElem?_getD, List.getElem?_set_ne e, List.getD_eq_getElem?_getD]
        rw [this]
      · rw [if_pos rfl]
theorem rep_congr (n : Nat) {B C : Nat → List Bool} (h : ∀ w, w < 16 → B w = C w) : rep n B = rep n C := by
  unfold rep
  refine List.map_congr_left fun t _ => num_congr fun w hw => ?_
  rw [h w hw]

/-! ### The program's loops -/
theorem jumps_inner (l : List S56) (h : Ok l) (i : Nat) (hi : i < l.length) (now : Nat → Bool) (js : List Int) (hjl : js.length ≤ 2) (hj : ∀ j ∈ js, 0 ≤ j ∧ j < 4294967296) (r : List Int) :
    ∀ (d m : Nat) (B : Nat → List Bool), m + d = js.length → (∀ w, (B w).length = l.length) →
    Ev (fun k => verify_Written.l1 k l (rep l.length fun w => if now w then B w else setT l.length (B w) ((js.drop m).map fun j => i + 1 + j.toNat)) l (l.length : Int) ((i + 1 : Nat) : Int)) r →
    Ev (fun k => verify_Written.l2 k l (rep l.length B) (i : Int) (num now) l (l.length : Int) (i : Int) js (js.length : Int) (m : Int)) r := by
  intro d
  induction d with
  | zero =>
    intro m B hm hB H
    have hl := h.len
    rw [List.drop_eq_nil_of_le (by omega)] at H
    have e : (rep l.length fun w => if now w then B w else setT l.length (B w) (([] : List Int).map fun j => i + 1 + j.toNat)) = rep l.length B := rep_congr _ fun w _ => by
      cases now w <;> rfl
    rw [e] at H
    have ew : wrap64 ((i : Int) + 1) = ((i + 1 : Nat) : Int) := by rw [ws _ (by omega) (by omega)]; omega
    exact Ev.step (fun k => by rw [verify_Written.l2, if_neg (by omega), ew]) H
  | succ d ih =>
    intro m B hm hB H
    have hl := h.len
    have hlt : m < js.length := by omega
    rw [List.drop_eq_getElem_cons hlt, List.map_cons] at H
    have er : rd js (m : Int) = js[m] := by simp [rd, hlt]
    have hb := hj js[m] (List.getElem_mem hlt)
    obtain ⟨j, hje⟩ : ∃ j, js[m] = j := ⟨_, rfl⟩
    rw [hje] at H er hb
    have ew : wrap64 (wrap64 ((i : Int) + 1) + wrap64 j) = ((i + 1 + j.toNat : Nat) : Int) := by rw [ws ((i : Int) + 1) (by omega) (by omega), ws j (by omega) (by omega), ws _ (by omega) (by omega)]; omega
    have em : wrap64 ((m : Int) + 1) = ((m + 1 : Nat) : Int) := by rw [ws _ (by omega) (by omega)]; omega
    obtain ⟨t, ht⟩ : ∃ t, i + 1 + j.toNat = t := ⟨_, rfl⟩
    rw [ht] at H ew
    by_cases c : t < l.length
    · refine Ev.step (fun k => by rw [verify_Written.l2, if_pos (by omega), if_pos (by omega), if_pos (by omega), er, ew, if_pos (by omega), if_pos (by omega), if_pos (by rw [rep_len]; omega), Int.toNat_natCast, rep_set l.length B hB now t c, em]) ?_
      refine ih (m + 1) (fun w => if now w then B w else (B w).set t true) (by omega) (fun w => by cases now w <;> simp [hB]) ?_
      have e : (rep l.length fun w => if now w then B w else setT l.length (B w) (t :: (js.drop (m + 1)).map fun j => i + 1 + j.toNat)) = (rep l.length fun w => if now w then (if now w then B w else (B w).set t true) else setT l.length (if now w then B w else (B w).set t true) ((js.drop (m + 1)).map fun j => i + 1 + j.toNat)) := rep_congr _ fun w _ => by
        cases hn : now w
        · simp only [Bool.false_eq_true, if_false]
          rw [setT, if_pos c]
        · simp only [if_true]
      rw [e] at H
      exact H
    · refine Ev.step (fun k => by rw [verify_Written.l2, if_pos (by omega), if_pos (by omega), if_pos (by omega), er, ew, if_neg (by omega), em]) ?_
      refine ih (m + 1) B (by omega) hB ?_
      have e : (rep l.length fun w => if now w then B w else setT l.length (B w) (t :: (js.drop (m + 1)).map fun j => i + 1 + j.toNat)) = (rep l.length fun w => if now w then B w else setT l.length (B w) ((js.drop (m + 1)).map fun j => i + 1 + j.toNat)) := rep_congr _ fun w _ => by
        cases hn : now w
        · simp only [Bool.false_eq_true, if_false]
          rw [setT, if_neg c]
        · simp only [if_true]
      rw [e] at H
      exact H

/-- No scratch word beyond the last is stored to. -/
def Fine (l : List S56) : Prop := ∀ i, i < l.length → errAt l i = 0
theorem fine_word {l : List S56} (hF : Fine l) {i : Nat} (hi : i < l.length) (hk : kindOf (at_ l i).f0 = 4 ∨ kindOf (at_ l i).f0 = 6 ∨ kindOf (at_ l i).f0 = 8 ∨ kindOf (at_ l i).f0 = 9) : (at_ l i).f3 < 16 := by
  have := hF i hi
  unfold errAt locE at this
  rw [if_neg (by omega), if_neg (by omega), if_pos hk] at this
  by_cases c : (at_ l i).f3 ≥ 16
  · rw [if_pos c] at this; omega
  · omega

theorem written_loop (l : List S56) (h : Ok l) (hF : Fine l) : ∀ d i, i + d = l.length → Ev (fun k => verify_Written.l1 k l (rep l.length fun w => bareS l w i) l (l.length : Int) (i : Int)) (rep l.length fun w => bareS l w l.length)
  | 0, i, hi => by
    obtain rfl : i = l.length := by omega
    exact Ev.step (fun k => by rw [verify_Written.l1, if_neg (by omega)]) (Ev.now _)
  | d + 1, i, hi => by
    have hl := h.len
    have ih := written_loop l h hF d (i + 1) (by omega)
    have hfit := h.at_ i
    obtain ⟨a0, a1, b0, b1, c0, c1, d0, d1⟩ := h.at_ i
    have hK : code_Kind.f (at_ l i).f0 = some (kindOf (at_ l i).f0) := rfl
    refine Ev.step (fun k => by rw [verify_Written.l1, if_pos (by omega), if_pos (by omega), if_pos (by omega), if_pos (by rw [rep_len]; omega), rd_at, hK, Option.bind_some, rep_rd _ _ i (by omega)]) ?_
    -- behind the store
    have rest : ∀ now : Nat → Bool, (∀ w, w < 16 → now w = (!(bareS l w i).getD i false || st l w i)) →
        Ev (fun k => verify_Written.j3 k l (rep l.length fun w => bareS l w i) (i : Int) (num now) l (l.length : Int) (i : Int) (at_ l i).f0 (at_ l i).f1 (at_ l i).f2 (at_ l i).f3) (rep l.length fun w => bareS l w l.length) := by
      intro now hnow
      refine Ev.step (fun k => by rw [verify_Written.j3, jumps_eq _ hfit, Option.bind_some]) ?_
      have hjl : (jmp (at_ l i)).length ≤ 2 := by have := tgt_len l i; unfold tgt at this; rwa [List.length_map] at this
      refine jumps_inner l h i (by omega) now (jmp (at_ l i)) hjl (jmp_range _ hfit) _ (jmp (at_ l i)).length 0 (fun w => bareS l w i) (by omega) (fun w => bare_len l w i) ?_
      rw [List.drop_zero]
      have e : (rep l.length fun w => if now w then bareS l w i else setT l.length (bareS l w i) ((jmp (at_ l i)).map fun j => i + 1 + j.toNat)) = rep l.length fun w => bareS l w (i + 1) := rep_congr _ fun w hw => by
        rw [hnow w hw, bareS]
        by_cases c : (bareS l w i).getD i false = true ∧ st l w i = false
        · rw [if_pos c, c.1, c.2]; rfl
        · rw [if_neg c]
          have : (!(bareS l w i).getD i false || st l w i) = true := by
            cases h1 : (bareS l w i).getD i false <;> cases h2 : st l w i <;> simp_all
          rw [this, if_pos rfl]
      rw [e]
      exact ih
    have store : kindOf (at_ l i).f0 = 8 ∨ kindOf (at_ l i).f0 = 9 → ∀ f : Bool, f = true →
        Ev (fun k => verify_Written.j2 k l (rep l.length fun w => bareS l w i) (i : Int) (num fun w => !(bareS l w i).getD i false) l (l.length : Int) (i : Int) f (at_ l i).f0 (at_ l i).f1 (at_ l i).f2 (at_ l i).f3) (rep l.length fun w => bareS l w l.length) := by
      intro hk f hf
      have hw := fine_word hF (show i < l.length by omega) (by omega)
      obtain ⟨K, hKe⟩ := Int.eq_ofNat_of_zero_le d0
      have hK16 : K < 16 := by omega
      have e : Go.bits .or .u16 (num fun w => !(bareS l w i).getD i false) (shl .u16 1 (at_ l i).f3) = num fun w => !(bareS l w i).getD i false || decide (w = K) := by
        rw [hKe]
        have h1 := num_one K hK16
        rw [show shl .u16 1 (K : Int) = num fun w => decide (w = K) from h1, num_or]
      refine Ev.step (fun k => by rw [verify_Written.j2, if_pos hf, if_pos d0, e]) ?_
      refine rest _ fun w _ => ?_
      have : st l w i = decide (w = K) := by
        unfold st
        rw [decide_eq_true hk, Bool.true_and, hKe]
        exact decide_eq_decide.2 (by omega)
      rw [this]
    by_cases k8 : kindOf (at_ l i).f0 = 8
    · exact Ev.congr (fun k => by rw [if_pos k8]) (store (.inl k8) true rfl)
    · refine Ev.congr (fun k => by rw [if_neg k8]) ?_
      by_cases k9 : kindOf (at_ l i).f0 = 9
      · exact store (.inr k9) _ (beq_iff_eq.2 k9)
      · refine Ev.step (fun k => by rw [verify_Written.j2, if_neg (by simpa using k9)]) ?_
        refine rest _ fun w _ => ?_
        have : st l w i = false := by unfold st; rw [decide_eq_false (by omega), Bool.false_and]
        rw [this, Bool.or_false]

theorem fill_loop (l : List S56) (h : Ok l) (hn : 0 < l.length) (r : List Int) (H : Ev (fun k => verify_Written.l1 k l ((List.replicate l.length 65535).set 0 0) l (l.length : Int) 0) r) :
    ∀ d i, i + d = l.length → Ev (fun k => verify_Written.l0 k l (List.replicate i 65535 ++ List.replicate d 0) (l.length : Int) (i : Int)) r
  | 0, i, hi => by
    obtain rfl : i = l.length := by omega
    rw [List.replicate_zero, List.append_nil]
    exact Ev.step (fun k => by rw [verify_Written.l0, if_neg (by omega), if_pos (by rw [List.length_replicate]; omega)]; rfl) H
  | d + 1, i, hi => by
    have hl := h.len
    have ih := fill_loop l h hn r H d (i + 1) (by omega)
    have ew : wrap64 ((i : Int) + 1) = ((i + 1 : Nat) : Int) := by rw [ws _ (by omega) (by omega)]; omega
    have e : (List.replicate i (65535 : Int) ++ List.replicate (d + 1) 0).set i 65535 = List.replicate (i + 1) 65535 ++ List.replicate d 0 := by
      rw [List.set_append, if_neg (by simp), List.length_replicate, Nat.sub_self, List.replicate_succ (n := d), List.set_cons_zero, List.replicate_succ' (n := i), List.append_assoc]; rfl
    refine Ev.step (fun k => by rw [verify_Written.l0, if_pos (by omega), if_pos (by omega), if_pos (by simp; omega), Int.toNat_natCast, e, ew]) ?_
    exact ih
theorem start_rep (l : List S56) (hn : 0 < l.length) : (List.replicate l.length (65535 : Int)).set 0 0 = rep l.length fun w => bareS l w 0 := by
  apply List.ext_getElem
  · simp [rep]
  · intro j h1 h2
    have hj : j < l.length := by simpa [rep] using h2
    rw [List.getElem_set, List.getElem_replicate]
    simp only [rep, List.getElem_map, List.getElem_range, bareS]
    by_cases e : 0 = j
    · subst e
      rw [if_pos rfl, num_none]
      refine num_congr fun w _ => ?_
      rw [List.getD_eq_getElem?_getD, List.getElem?_set_self (by simpa using hn)]; rfl
    · rw [if_neg e, num_all]
      refine num_congr fun w _ => ?_
      rw [List.getD_eq_getElem?_getD, List.getElem?_set_ne e, List.getElem?_replicate, if_pos hj]; rfl
def written (l : List S56) : List Int := if (whole l).2 = 0 then rep l.length fun w => bareS l w l.length else []
theorem whole_fine {l : List S56} (h : (whole l).2 = 0) : 0 < l.length ∧ l.length ≤ 4096 ∧ Fine l ∧ whole l = (0, 0) := by
  unfold whole at h ⊢
  by_cases c : l.length = 0
  · rw [if_pos c] at h; cases h
  · rw [if_neg c] at h ⊢
    by_cases c2 : l.length > 4096
    · rw [if_pos c2] at h; cases h
    · rw [if_neg c2] at h ⊢
      exact ⟨by omega, by omega, fun i hi => (bad_zero l l.length 0).1 h i (by omega) (by omega), bad_none l _ _ h⟩
theorem written_ev (l : List S56) (h : Ok l) : Ev (fun k => verify_Written.f k l) (written l) := by
  have hl := h.len
  unfold verify_Written.f written
  refine Ev.bind (whole_ev l h) ?_
  by_cases c : (whole l).2 = 0
  · rw [if_pos c]
    obtain ⟨hn, hm, hF, _⟩ := whole_fine c
    refine Ev.congr (fun k => by rw [if_pos c, if_pos (by omega), if_pos (by omega), Option.bind_some, Int.toNat_natCast, List.length_replicate]) ?_
    have H := written_loop l h hF l.length 0 (by omega)
    rw [← start_rep l hn] at H
    have := fill_loop l h hn _ H l.length 0 (by omega)
    rw [List.replicate_zero, List.nil_append] at this
    exact this
  · rw [if_neg c]; exact Ev.congr (fun k => by rw [if_neg c]) (Ev.now _)

/-! ### The reference's loops -/
def part (l : List S56) (w : Nat) : List Int := (List.range l.length).map fun t => num fun v => decide (v < w) && !(without l v).getD t false
def partAt (l : List S56) (w i : Nat) : List Int := (List.range l.length).map fun t => num fun v => decide (v < (if t < i then w + 1 else w)) && !(without l v).getD t false
theorem partAt_zero (l : List S56) (w : Nat) : partAt l w 0 = part l w := by unfold partAt part; simp
theorem partAt_all (l : List S56) (w : Nat) : partAt l w l.length = part l (w + 1) := by
  unfold partAt part
  refine List.map_congr_left fun t ht => ?_
  rw [if_pos (by simpa using ht)]
theorem partAt_len (l : List S56) (w i : Nat) : (partAt l w i).length = l.length := by simp [partAt]
theorem without_len (l : List S56) (w : Nat) : (without l w).length = l.length := by
  unfold without
  by_cases c : l.length = 0
  · rw [if_pos c, c]; rfl
  · rw [if_neg c, bare_len]
theorem partAt_skip (l : List S56) (w i : Nat) (hi : i < l.length) (hb : (without l w).getD i false = true) : partAt l w (i + 1) = partAt l w i := by
  unfold partAt
  refine List.map_congr_left fun t ht => num_congr fun v _ => ?_
  by_cases e : t = i
  · subst e
    rw [if_pos (by omega), if_neg (by omega)]
    by_cases c : v = w
    · subst c; rw [hb]; simp
    · rw [show decide (v < w + 1) = decide (v < w) from decide_eq_decide.2 (by omega)]
  · by_cases c : t < i
    · rw [if_pos (by omega), if_pos c]
    · rw [if_neg (by omega), if_neg c]
theorem partAt_or (l : List S56) (w i : Nat) (hw : w < 16) (hi : i < l.length) (hb : (without l w).getD i false = false) :
    (partAt l w i).set i (Go.bits .or .u16 (rd (partAt l w i) (i : Int)) (shl .u16 1 (w : Int))) = partAt l w (i + 1) := by
  have er : rd (partAt l w i) (i : Int) = num fun v => decide (v < w) && !(without l v).getD i false := by
    simp [rd, partAt, hi]
  rw [er, num_one w hw, num_or]
  apply List.ext_getElem
  · simp [partAt]
  · intro j h1 h2
    rw [List.getElem_set]
    simp only [partAt, List.getElem_map, List.getElem_range]
    by_cases e : i = j
    · subst e
      rw [if_pos rfl]
      refine num_congr fun v _ => ?_
      rw [if_pos (by omega)]
      by_cases c : v = w
      · subst c; rw [hb]; simp
      · rw [show decide (v < w + 1) = decide (v < w) from decide_eq_decide.2 (by omega), decide_eq_false c, Bool.or_false]
    · rw [if_neg e]
      refine num_congr fun v _ => ?_
      by_cases c : j < i
      · rw [if_pos c, if_pos (by omega)]
      · rw [if_neg c, if_neg (by omega)]
theorem ref_written_inner (l : List S56) (h : Ok l) (w : Nat) (hw : w < 16) (r : List Int) (H : Ev (fun k => tamisref06_Written.l0 k l (part l (w + 1)) ((w + 1 : Nat) : Int)) r) :
    ∀ d i, i + d = l.length → Ev (fun k => tamisref06_Written.l1 k l (partAt l w i) (w : Int) (without l w) (i : Int)) r
  | 0, i, hi => by
    obtain rfl : i = l.length := by omega
    rw [partAt_all]
    have ew : wrap64 ((w : Int) + 1) = ((w + 1 : Nat) : Int) := by rw [ws _ (by omega) (by omega)]; omega
    exact Ev.step (fun k => by rw [tamisref06_Written.l1, if_neg (by omega), ew]) H
  | d + 1, i, hi => by
    have hl := h.len
    have ih := ref_written_inner l h w hw r H d (i + 1) (by omega)
    have ew : wrap64 ((i : Int) + 1) = ((i + 1 : Nat) : Int) := by rw [ws _ (by omega) (by omega)]; omega
    have hr : rdOf false (without l w) (i : Int) = (without l w).getD i false := by simp [rdOf]
    by_cases c : (without l w).getD i false = true
    · rw [partAt_skip l w i (by omega) c] at ih
      exact Ev.step (fun k => by rw [tamisref06_Written.l1, if_pos (by omega), if_pos (by omega), if_pos (by rw [without_len]; omega), hr, if_pos c, ew]) ih
    · rw [← partAt_or l w i hw (by omega) (by simpa using c)] at ih
      exact Ev.step (fun k => by rw [tamisref06_Written.l1, if_pos (by omega), if_pos (by omega), if_pos (by rw [without_len]; omega), hr, if_neg c, if_pos (by rw [partAt_len]; omega), if_pos (by omega), Int.toNat_natCast, ew]) ih
theorem ref_written_loop (l : List S56) (h : Ok l) : ∀ d w, w + d = 16 → Ev (fun k => tamisref06_Written.l0 k l (part l w) (w : Int)) (part l 16)
  | 0, w, hw => by
    obtain rfl : w = 16 := by omega
    exact Ev.step (fun k => by rw [tamisref06_Written.l0, if_neg (by decide)]) (Ev.now _)
  | d + 1, w, hw => by
    have ih := ref_written_loop l h d (w + 1) (by omega)
    refine Ev.step (fun k => by rw [tamisref06_Written.l0, if_pos (by omega)]) ?_
    refine Ev.bind (without_ev l h w) ?_
    have := ref_written_inner l h w (by omega) _ ih l.length 0 (by omega)
    rw [partAt_zero] at this
    exact this
theorem ref_written_ev (l : List S56) (h : Ok l) : Ev (fun k => tamisref06_Written.f k l) (written l) := by
  have hl := h.len
  unfold tamisref06_Written.f written
  refine Ev.bind (ref_whole_ev l h) ?_
  by_cases c : (whole l).2 = 0
  · rw [if_pos c]
    obtain ⟨hn, hm, hF, _⟩ := whole_fine c
    refine Ev.congr (fun k => by rw [if_pos (decide_eq_true c), if_pos (by omega), if_pos (by omega), Int.toNat_natCast]) ?_
    have H := ref_written_loop l h 16 0 rfl
    have e0 : part l 0 = List.replicate l.length 0 := by
      apply List.ext_getElem
      · simp [part]
      · intro j h1 h2
        simp only [part, List.getElem_map, List.getElem_range, List.getElem_replicate]
        rw [num_none]
        refine num_congr fun v _ => by simp
    have e1 : part l 16 = rep l.length fun w => bareS l w l.length := by
      unfold part rep
      refine List.map_congr_left fun t _ => num_congr fun v hv => ?_
      rw [decide_eq_true hv, Bool.true_and]
      unfold without
      rw [if_neg (by omega)]
    rw [e0, e1] at H
    exact H
  · rw [if_neg c]; exact Ev.congr (fun k => by rw [if_neg (by simpa using c)]) (Ev.now _)

/-! ### Is it a filter -/
def scan (l : List S56) (A : List Int) : Nat → Nat → Int × Int
  | 0, _ => (0, 0)
  | d + 1, i => if (kindOf (at_ l i).f0 = 4 ∨ kindOf (at_ l i).f0 = 6) ∧ Go.bits .and .u16 (shr .u16 (rd A (i : Int)) (at_ l i).f3) 1 = 0 then ((i : Int), 10) else scan l A d (i + 1)
def check (l : List S56) : Int × Int :=
  if (whole l).2 = 0 then (if kindOf (at_ l (l.length - 1)).f0 = 13 ∨ kindOf (at_ l (l.length - 1)).f0 = 14 then scan l (written l) l.length 0 else (((l.length - 1 : Nat) : Int), 12)) else whole l
theorem written_len {l : List S56} (h : (whole l).2 = 0) : (written l).length = l.length := by unfold written; rw [if_pos h, rep_len]
theorem check_loop (l : List S56) (h : Ok l) (A : List Int) (hA : A.length = l.length) : ∀ d i, i + d = l.length → Ev (fun k => verify_Check.l0 k A l (l.length : Int) (i : Int)) (scan l A d i)
  | 0, i, hi => Ev.step (fun k => by rw [verify_Check.l0, if_neg (by omega)]; rfl) (Ev.now _)
  | d + 1, i, hi => by
    have hl := h.len
    have ih := check_loop l h A hA d (i + 1) (by omega)
    obtain ⟨a0, a1, b0, b1, c0, c1, d0, d1⟩ := h.at_ i
    have ew : wrap64 ((i : Int) + 1) = ((i + 1 : Nat) : Int) := by rw [ws _ (by omega) (by omega)]; omega
    have hK : code_Kind.f (at_ l i).f0 = some (kindOf (at_ l i).f0) := rfl
    refine Ev.step (fun k => by rw [verify_Check.l0, if_pos (by omega), if_pos (by omega), if_pos (by omega), rd_at, hK, Option.bind_some, ew]) ?_
    rw [scan]
    by_cases k4 : kindOf (at_ l i).f0 = 4
    · refine Ev.congr (fun k => by rw [if_pos k4, if_pos (by omega), if_pos d0]) ?_
      by_cases z : Go.bits .and .u16 (shr .u16 (rd A (i : Int)) (at_ l i).f3) 1 = 0
      · rw [if_pos ⟨.inl k4, z⟩]; exact Ev.congr (fun k => by rw [if_pos z]) (Ev.now _)
      · rw [if_neg (fun c => z c.2)]; exact Ev.congr (fun k => by rw [if_neg z]) ih
    · refine Ev.congr (fun k => by rw [if_neg k4]) ?_
      by_cases k6 : kindOf (at_ l i).f0 = 6
      · refine Ev.congr (fun k => by rw [if_pos k6, if_pos (by omega), if_pos d0]) ?_
        by_cases z : Go.bits .and .u16 (shr .u16 (rd A (i : Int)) (at_ l i).f3) 1 = 0
        · rw [if_pos ⟨.inr k6, z⟩]; exact Ev.congr (fun k => by rw [if_pos z]) (Ev.now _)
        · rw [if_neg (fun c => z c.2)]; exact Ev.congr (fun k => by rw [if_neg z]) ih
      · rw [if_neg (by omega)]; exact Ev.congr (fun k => by rw [if_neg k6]) ih
theorem last_at {l : List S56} (h : Ok l) (hn : 0 < l.length) : wrap64 ((l.length : Int) - 1) = ((l.length - 1 : Nat) : Int) := by
  have := h.len
  rw [ws _ (by omega) (by omega)]; omega
theorem check_ev (l : List S56) (h : Ok l) : Ev (fun k => verify_Check.f k l) (check l) := by
  have hl := h.len
  unfold verify_Check.f check
  refine Ev.bind (whole_ev l h) ?_
  by_cases c : (whole l).2 = 0
  · rw [if_pos c]
    obtain ⟨hn, hm, hF, _⟩ := whole_fine c
    have hK : code_Ends.f (at_ l (l.length - 1)).f0 = some (decide (kindOf (at_ l (l.length - 1)).f0 = 13 ∨ kindOf (at_ l (l.length - 1)).f0 = 14)) := by
      unfold code_Ends.f code_Kind.f
      rw [Option.bind_some]
      by_cases q : kindOf (at_ l (l.length - 1)).f0 = 13
      · rw [if_pos q, decide_eq_true (.inl q)]
      · rw [if_neg q]
        refine congrArg some ?_
        rw [show (kindOf (at_ l (l.length - 1)).f0 == 14) = decide (kindOf (at_ l (l.length - 1)).f0 = 14) from rfl]
        exact decide_eq_decide.2 (by omega)
    refine Ev.congr (fun k => by rw [if_pos c, last_at h hn, if_pos (by omega), if_pos (by omega), rd_at, hK, Option.bind_some]) ?_
    by_cases q : kindOf (at_ l (l.length - 1)).f0 = 13 ∨ kindOf (at_ l (l.length - 1)).f0 = 14
    · rw [if_pos q]
      refine Ev.congr (fun k => by rw [if_pos (decide_eq_true q)]) ?_
      refine Ev.bind (written_ev l h) ?_
      exact check_loop l h (written l) (written_len c) l.length 0 (by omega)
    · rw [if_neg q]; exact Ev.congr (fun k => by rw [if_neg (by simpa using q)]) (Ev.now _)
  · rw [if_neg c]; exact Ev.congr (fun k => by rw [if_neg c]) (Ev.now _)
theorem right_ev (l : List S56) (h : Ok l) : Ev (fun k => verify_Right.f k l) ((check l).2 == 0) := by
  unfold verify_Right.f
  exact Ev.bind (check_ev l h) (Ev.now _)
theorem ref_scan_loop (l : List S56) (h : Ok l) (A : List Int) (hA : A.length = l.length) : ∀ d i, i + d = l.length → Ev (fun k => tamisref06_Check.l1 k l A (i : Int)) (scan l A d i)
  | 0, i, hi => Ev.step (fun k => by rw [tamisref06_Check.l1, if_neg (by omega)]; rfl) (Ev.now _)
  | d + 1, i, hi => by
    have hl := h.len
    have ih := ref_scan_loop l h A hA d (i + 1) (by omega)
    obtain ⟨a0, a1, b0, b1, c0, c1, d0, d1⟩ := h.at_ i
    have ew : wrap64 ((i : Int) + 1) = ((i + 1 : Nat) : Int) := by rw [ws _ (by omega) (by omega)]; omega
    refine Ev.step (fun k => by rw [tamisref06_Check.l1, if_pos (by omega), if_pos (by omega), rd_at, ew]) ?_
    refine Ev.bind (ref_kind (at_ l i).f0) ?_
    rw [scan]
    by_cases k4 : kindOf (at_ l i).f0 = 4
    · refine Ev.congr (fun k => by rw [if_pos k4, if_pos (by omega), if_pos d0]) ?_
      by_cases z : Go.bits .and .u16 (shr .u16 (rd A (i : Int)) (at_ l i).f3) 1 = 0
      · rw [if_pos ⟨.inl k4, z⟩]; exact Ev.congr (fun k => by rw [if_pos z]) (Ev.now _)
      · rw [if_neg (fun c => z c.2)]; exact Ev.congr (fun k => by rw [if_neg z]) ih
    · refine Ev.congr (fun k => by rw [if_neg k4]) ?_
      by_cases k6 : kindOf (at_ l i).f0 = 6
      · refine Ev.congr (fun k => by rw [if_pos k6, if_pos (by omega), if_pos d0]) ?_
        by_cases z : Go.bits .and .u16 (shr .u16 (rd A (i : Int)) (at_ l i).f3) 1 = 0
        · rw [if_pos ⟨.inr k6, z⟩]; exact Ev.congr (fun k => by rw [if_pos z]) (Ev.now _)
        · rw [if_neg (fun c => z c.2)]; exact Ev.congr (fun k => by rw [if_neg z]) ih
      · rw [if_neg (by omega)]; exact Ev.congr (fun k => by rw [if_neg k6]) ih
def tail (l : List S56) : Int × Int := if kindOf (at_ l (l.length - 1)).f0 = 13 ∨ kindOf (at_ l (l.length - 1)).f0 = 14 then scan l (written l) l.length 0 else (((l.length - 1 : Nat) : Int), 12)
theorem ref_check_loop (l : List S56) (h : Ok l) (hn : 0 < l.length) (hm : l.length ≤ 4096) : ∀ d i, i + d = l.length → (∀ j, j < i → errAt l j = 0) → Ev (fun k => tamisref06_Check.l0 k l (i : Int)) (if (bad l d i).2 = 0 then tail l else bad l d i)
  | 0, i, hi, hz => by
    have hw : (whole l).2 = 0 := by
      unfold whole
      rw [if_neg (by omega), if_neg (by omega)]
      exact (bad_zero l l.length 0).2 fun j _ hj => hz j (by omega)
    rw [show (bad l 0 i).2 = 0 from rfl, if_pos rfl]
    refine Ev.step (fun k => by rw [tamisref06_Check.l0, if_neg (by omega), last_at h hn, if_pos (by omega), if_pos (by omega), rd_at]) ?_
    refine Ev.bind (ref_kind _) ?_
    unfold tail
    have fin : kindOf (at_ l (l.length - 1)).f0 = 13 ∨ kindOf (at_ l (l.length - 1)).f0 = 14 → ∀ f : Bool, f = false → Ev (fun k => tamisref06_Check.j1 k l f) (scan l (written l) l.length 0) := by
      intro q f hf
      refine Ev.step (fun k => by rw [tamisref06_Check.j1, if_neg (by rw [hf]; decide)]) ?_
      refine Ev.bind (ref_written_ev l h) ?_
      exact ref_scan_loop l h (written l) (written_len hw) l.length 0 (by omega)
    by_cases q : kindOf (at_ l (l.length - 1)).f0 = 13
    · rw [if_pos (.inl q)]; exact Ev.congr (fun k => by rw [if_pos q]) (fin (.inl q) false rfl)
    · refine Ev.congr (fun k => by rw [if_neg q]) ?_
      by_cases q2 : kindOf (at_ l (l.length - 1)).f0 = 14
      · rw [if_pos (.inr q2)]; exact fin (.inr q2) _ (by rw [q2]; rfl)
      · rw [if_neg (by omega)]
        exact Ev.step (fun k => by rw [tamisref06_Check.j1, if_pos (bne_iff_ne.2 q2), last_at h hn]) (Ev.now _)
  | d + 1, i, hi, hz => by
    refine Ev.step (fun k => by rw [tamisref06_Check.l0, if_pos (by omega)]) ?_
    refine Ev.bind (ref_local_ev l h i (by omega)) ?_
    have ew : wrap64 ((i : Int) + 1) = ((i + 1 : Nat) : Int) := by have := h.len; rw [ws _ (by omega) (by omega)]; omega
    rw [bad]
    by_cases c : errAt l i = 0
    · rw [if_pos c]
      refine Ev.congr (fun k => by rw [if_pos c, ew]) ?_
      refine ref_check_loop l h hn hm d (i + 1) (by omega) fun j hj => ?_
      by_cases e : j = i
      · rw [e]; exact c
      · exact hz j (by omega)
    · rw [if_neg c, if_neg c]; exact Ev.congr (fun k => by rw [if_neg c]) (Ev.now _)
theorem ref_check_ev (l : List S56) (h : Ok l) : Ev (fun k => tamisref06_Check.f k l) (check l) := by
  unfold tamisref06_Check.f check
  by_cases c : l.length = 0
  · have : whole l = (0, 4) := by unfold whole; rw [if_pos c]
    rw [this, if_neg (by decide)]
    exact Ev.congr (fun k => by rw [if_pos (by omega)]) (Ev.now _)
  · by_cases c2 : l.length > 4096
    · have : whole l = (0, 5) := by unfold whole; rw [if_neg c, if_pos c2]
      rw [this, if_neg (by decide)]
      exact Ev.congr (fun k => by rw [if_neg (by omega), if_pos (by omega)]) (Ev.now _)
    · have e : whole l = bad l l.length 0 := by unfold whole; rw [if_neg c, if_neg c2]
      rw [e]
      refine Ev.congr (fun k => by rw [if_neg (by omega), if_neg (by omega)]) ?_
      exact ref_check_loop l h (by omega) (by omega) l.length 0 (by omega) (fun j hj => absurd hj (by omega))

end Go.Proofs.Ytmjpibeiglicdaa.Ver
