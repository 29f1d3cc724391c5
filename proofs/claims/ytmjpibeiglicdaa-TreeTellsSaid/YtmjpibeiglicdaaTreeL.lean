/- Plain laws of layer 24: what is wrong with rows, and the tree, as the program and the document tell them. -/
import Derived.Test.YtmjpibeiglicdaaT5
namespace Go.Proofs.Ytmjpibeiglicdaa.TreeL
open Go.RowKit Go.Proofs.Ytmjpibeiglicdaa.T Go.Proofs.YtmjpibeiglicdaaV.PrintWords Go.Proofs.YtmjpibeiglicdaaV.PrintLast Go.Proofs.YtmjpibeiglicdaaV.PrintMore
open Go.Proofs.Ytmjpibeiglicdaa.TreeB (leafF rowsF buildF rows_len leaf_len)

theorem ws (n : Int) (h0 : -9223372036854775808 ≤ n) (h1 : n < 9223372036854775808) : wrap64 n = n := by unfold wrap64; omega
theorem wn (n : Nat) (h1 : n < 9223372036854775807) : wrap64 ((n : Int) + 1) = ((n + 1 : Nat) : Int) := by rw [ws _ (by omega) (by omega)]; omega

/-! ### Rows and items as the document has them -/
def toR (x : S113) : S119 := ⟨x.f0, x.f1, x.f2⟩
def toI (x : S40) : S38 := ⟨x.f0, x.f1, x.f2, x.f3, x.f4⟩
theorem take_snoc {α : Type} (l : List α) (i : Nat) (z : α) (h : i < l.length) : l.take i ++ [l.getD i z] = l.take (i + 1) := by
  rw [List.take_succ_eq_append_getElem h, List.getD_eq_getElem?_getD, List.getElem?_eq_getElem h]; rfl
theorem own_loop (l : List S113) (hl : l.length ≤ 1000000) : ∀ d i, i + d = l.length → Ev (fun k => tamislaw24_own.l0 k ((l.take i).map toR) l (l.length : Int) (i : Int)) (l.map toR)
  | 0, i, hi => by
    refine Ev.step (fun k => by rw [tamislaw24_own.l0, if_neg (by omega)]) ?_
    rw [List.take_of_length_le (by omega)]; exact Ev.now _
  | d + 1, i, hi => by
    have ih := own_loop l hl d (i + 1) (by omega)
    rw [← take_snoc l i z113 (by omega), List.map_append] at ih
    refine Ev.step (fun k => by rw [tamislaw24_own.l0, if_pos (by omega), if_pos (by omega), if_pos (by omega), if_pos (by rw [List.length_map, List.length_take]; omega), wn i (by omega)]) ?_
    exact ih
theorem own_ev (l : List S113) (hl : l.length ≤ 1000000) : Ev (fun k => tamislaw24_own.f k l) (l.map toR) := own_loop l hl l.length 0 (by omega)
theorem Own_loop (l : List S40) (hl : l.length ≤ 1000000) : ∀ d i, i + d = l.length → Ev (fun k => tamislaw23_Own.l0 k ((l.take i).map toI) l (l.length : Int) (i : Int)) (l.map toI)
  | 0, i, hi => by
    refine Ev.step (fun k => by rw [tamislaw23_Own.l0, if_neg (by omega)]) ?_
    rw [List.take_of_length_le (by omega)]; exact Ev.now _
  | d + 1, i, hi => by
    have ih := Own_loop l hl d (i + 1) (by omega)
    rw [← take_snoc l i z40 (by omega), List.map_append] at ih
    refine Ev.step (fun k => by rw [tamislaw23_Own.l0, if_pos (by omega), if_pos (by omega), if_pos (by omega), if_pos (by rw [List.length_map, List.length_take]; omega), wn i (by omega)]) ?_
    exact ih
theorem Own_ev (l : List S40) (hl : l.length ≤ 1000000) : Ev (fun k => tamislaw23_Own.f k l) (l.map toI) := Own_loop l hl l.length 0 (by omega)

/-! ### What is wrong -/
def at_ (l : List S113) (i : Nat) : S113 := l.getD i z113
theorem rd_at (l : List S113) (i : Nat) : rd_T113 l (i : Int) = at_ l i := by simp [rd_T113, at_]
theorem rd_ref (l : List S113) (i : Nat) : rd_T119 (l.map toR) (i : Int) = toR (at_ l i) := by
  unfold rd_T119 at_
  rw [Int.toNat_natCast, List.getD_eq_getElem?_getD, List.getElem?_map, List.getD_eq_getElem?_getD]
  cases l[i]? <;> rfl
/-- The row at i is wrong. -/
def badAt (l : List S113) (first : Int) (i : Nat) : Bool :=
  decide ((at_ l i).f0 > (at_ l i).f1) || (decide (0 < i) && decide ((at_ l i).f0 ≤ (at_ l (i - 1)).f1)) || decide ((at_ l i).f2 < 0) || decide ((at_ l i).f2 ≥ first)
def scanW (l : List S113) (first : Int) : Nat → Nat → Int
  | 0, _ => 0
  | d + 1, i => if badAt l first i = true then 1 else scanW l first d (i + 1)
def wrongE (l : List S113) (other first : Int) : Int :=
  if l.length > 4096 then 5 else if first < 1 ∨ first > 1073741824 ∨ other < 0 ∨ other ≥ first then 1 else scanW l first l.length 0
theorem bad_iff (l : List S113) (first : Int) (i : Nat) : badAt l first i = true ↔ (at_ l i).f0 > (at_ l i).f1 ∨ (0 < i ∧ (at_ l i).f0 ≤ (at_ l (i - 1)).f1) ∨ (at_ l i).f2 < 0 ∨ (at_ l i).f2 ≥ first := by
  unfold badAt
  simp only [Bool.or_eq_true, Bool.and_eq_true, decide_eq_true_eq, or_assoc]
theorem wrong_loop (l : List S113) (first : Int) (hl : l.length ≤ 1000000) : ∀ d i, i + d = l.length → Ev (fun k => tree_wrong.l0 k l first l (l.length : Int) (i : Int)) (scanW l first d i)
  | 0, i, hi => Ev.step (fun k => by rw [tree_wrong.l0, if_neg (by omega)]; rfl) (Ev.now _)
  | d + 1, i, hi => by
    have ih := wrong_loop l first hl d (i + 1) (by omega)
    have hb := bad_iff l first i
    rw [scanW]
    refine Ev.step (fun k => by rw [tree_wrong.l0, if_pos (by omega), if_pos (by omega), if_pos (by omega), rd_at, wn i (by omega)]) ?_
    by_cases c1 : (at_ l i).f0 > (at_ l i).f1
    · rw [if_pos (hb.2 (.inl c1))]; exact Ev.congr (fun k => by rw [if_pos c1]) (Ev.now _)
    refine Ev.congr (fun k => by rw [if_neg c1]) ?_
    have fin : ¬ (0 < i ∧ (at_ l i).f0 ≤ (at_ l (i - 1)).f1) → Ev (fun k => (if ((at_ l i).f2) < 0 then (some 1) else (if ((at_ l i).f2) ≥ first then (some 1) else (tree_wrong.l0 k l first l (l.length : Int) ((i + 1 : Nat) : Int))))) (if badAt l first i = true then 1 else scanW l first d (i + 1)) := by
      intro hn
      by_cases c3 : (at_ l i).f2 < 0
      · rw [if_pos (hb.2 (.inr (.inr (.inl c3))))]; exact Ev.congr (fun k => by rw [if_pos c3]) (Ev.now _)
      by_cases c4 : (at_ l i).f2 ≥ first
      · rw [if_pos (hb.2 (.inr (.inr (.inr c4))))]; exact Ev.congr (fun k => by rw [if_neg c3, if_pos c4]) (Ev.now _)
      rw [if_neg (fun h => by rcases hb.1 h with h | h | h | h <;> contradiction)]
      exact Ev.congr (fun k => by rw [if_neg c3, if_neg c4]) ih
    by_cases z : 0 < i
    · have ew : wrap64 ((i : Int) - 1) = ((i - 1 : Nat) : Int) := by rw [ws _ (by omega) (by omega)]; omega
      refine Ev.congr (fun k => by rw [if_pos (show (i : Int) > 0 by omega), ew, if_pos (by omega), if_pos (by omega), rd_at]) ?_
      by_cases c2 : (at_ l i).f0 ≤ (at_ l (i - 1)).f1
      · rw [if_pos (hb.2 (.inr (.inl ⟨z, c2⟩)))]; exact Ev.congr (fun k => by rw [if_pos c2]) (Ev.now _)
      · exact Ev.congr (fun k => by rw [if_neg c2]) (fin (fun h => c2 h.2))
    · exact Ev.congr (fun k => by rw [if_neg (show ¬ (i : Int) > 0 by omega)]) (fin (fun h => z h.1))
theorem wrong_ev (l : List S113) (other first : Int) : Ev (fun k => tree_wrong.f k l other first) (wrongE l other first) := by
  unfold tree_wrong.f wrongE
  by_cases c : l.length > 4096
  · rw [if_pos c]; exact Ev.congr (fun k => by rw [if_pos (by omega)]) (Ev.now _)
  rw [if_neg c]
  refine Ev.congr (fun k => by rw [if_neg (by omega)]) ?_
  have out : ∀ f : Bool, f = true → Ev (fun k => tree_wrong.j0 k l first f) 1 := fun f hf => Ev.step (fun k => by rw [tree_wrong.j0, if_pos hf]) (Ev.now _)
  by_cases c1 : first < 1
  · rw [if_pos (.inl c1)]; exact Ev.congr (fun k => by rw [if_pos c1]) (out true rfl)
  refine Ev.congr (fun k => by rw [if_neg c1]) ?_
  by_cases c2 : first > 1073741824
  · rw [if_pos (.inr (.inl c2))]; exact Ev.congr (fun k => by rw [if_pos c2]) (out true rfl)
  refine Ev.congr (fun k => by rw [if_neg c2]) ?_
  by_cases c3 : other < 0
  · rw [if_pos (.inr (.inr (.inl c3)))]; exact Ev.congr (fun k => by rw [if_pos c3]) (out true rfl)
  refine Ev.congr (fun k => by rw [if_neg c3]) ?_
  by_cases c4 : other ≥ first
  · rw [if_pos (.inr (.inr (.inr c4)))]; exact out _ (decide_eq_true c4)
  rw [if_neg (by omega)]
  refine Ev.step (fun k => by rw [tree_wrong.j0, if_neg (by simpa using c4)]) ?_
  exact wrong_loop l first (by omega) l.length 0 (by omega)
theorem check_loop (l : List S113) (first : Int) (hl : l.length ≤ 1000000) : ∀ d i, i + d = l.length → Ev (fun k => tamisref24_Check.l0 k (l.map toR) first (i : Int)) (scanW l first d i)
  | 0, i, hi => Ev.step (fun k => by rw [tamisref24_Check.l0, List.length_map, if_neg (by omega)]; rfl) (Ev.now _)
  | d + 1, i, hi => by
    have ih := check_loop l first hl d (i + 1) (by omega)
    have hb := bad_iff l first i
    rw [scanW]
    refine Ev.step (fun k => by rw [tamisref24_Check.l0, List.length_map, if_pos (by omega), if_pos (by omega), rd_ref, wn i (by omega)]) ?_
    by_cases c1 : (at_ l i).f0 > (at_ l i).f1
    · rw [if_pos (hb.2 (.inl c1))]; exact Ev.congr (fun k => by rw [if_pos (show (toR (at_ l i)).f0 > (toR (at_ l i)).f1 from c1)]) (Ev.now _)
    refine Ev.congr (fun k => by rw [if_neg (show ¬ (toR (at_ l i)).f0 > (toR (at_ l i)).f1 from c1)]) ?_
    have fin : ¬ (0 < i ∧ (at_ l i).f0 ≤ (at_ l (i - 1)).f1) → Ev (fun k => (if ((toR (at_ l i)).f2) < 0 then (some 1) else (if ((toR (at_ l i)).f2) ≥ first then (some 1) else (tamisref24_Check.l0 k (l.map toR) first ((i + 1 : Nat) : Int))))) (if badAt l first i = true then 1 else scanW l first d (i + 1)) := by
      intro hn
      by_cases c3 : (at_ l i).f2 < 0
      · rw [if_pos (hb.2 (.inr (.inr (.inl c3))))]; exact Ev.congr (fun k => by rw [if_pos (show (toR (at_ l i)).f2 < 0 from c3)]) (Ev.now _)
      by_cases c4 : (at_ l i).f2 ≥ first
      · rw [if_pos (hb.2 (.inr (.inr (.inr c4))))]; exact Ev.congr (fun k => by rw [if_neg (show ¬ (toR (at_ l i)).f2 < 0 from c3), if_pos (show (toR (at_ l i)).f2 ≥ first from c4)]) (Ev.now _)
      rw [if_neg (fun h => by rcases hb.1 h with h | h | h | h <;> contradiction)]
      exact Ev.congr (fun k => by rw [if_neg (show ¬ (toR (at_ l i)).f2 < 0 from c3), if_neg (show ¬ (toR (at_ l i)).f2 ≥ first from c4)]) ih
    by_cases z : 0 < i
    · have ew : wrap64 ((i : Int) - 1) = ((i - 1 : Nat) : Int) := by rw [ws _ (by omega) (by omega)]; omega
      refine Ev.congr (fun k => by rw [if_pos (show (i : Int) > 0 by omega), ew, if_pos (by omega), if_pos (by omega), rd_ref]) ?_
      by_cases c2 : (at_ l i).f0 ≤ (at_ l (i - 1)).f1
      · rw [if_pos (hb.2 (.inr (.inl ⟨z, c2⟩)))]; exact Ev.congr (fun k => by rw [if_pos (show (toR (at_ l i)).f0 ≤ (toR (at_ l (i - 1))).f1 from c2)]) (Ev.now _)
      · exact Ev.congr (fun k => by rw [if_neg (show ¬ (toR (at_ l i)).f0 ≤ (toR (at_ l (i - 1))).f1 from c2)]) (fin (fun h => c2 h.2))
    · exact Ev.congr (fun k => by rw [if_neg (show ¬ (i : Int) > 0 by omega)]) (fin (fun h => z h.1))
theorem check_ev (l : List S113) (other first : Int) : Ev (fun k => tamisref24_Check.f k (l.map toR) other first) (wrongE l other first) := by
  unfold tamisref24_Check.f wrongE
  rw [List.length_map]
  by_cases c : l.length > 4096
  · rw [if_pos c]; exact Ev.congr (fun k => by rw [if_pos (by omega)]) (Ev.now _)
  rw [if_neg c]
  refine Ev.congr (fun k => by rw [if_neg (by omega)]) ?_
  have out : ∀ f : Bool, f = true → Ev (fun k => tamisref24_Check.j0 k (l.map toR) first f) 1 := fun f hf => Ev.step (fun k => by rw [tamisref24_Check.j0, if_pos hf]) (Ev.now _)
  by_cases c1 : first < 1
  · rw [if_pos (.inl c1)]; exact Ev.congr (fun k => by rw [if_pos c1]) (out true rfl)
  refine Ev.congr (fun k => by rw [if_neg c1]) ?_
  by_cases c2 : first > 1073741824
  · rw [if_pos (.inr (.inl c2))]; exact Ev.congr (fun k => by rw [if_pos c2]) (out true rfl)
  refine Ev.congr (fun k => by rw [if_neg c2]) ?_
  by_cases c3 : other < 0
  · rw [if_pos (.inr (.inr (.inl c3)))]; exact Ev.congr (fun k => by rw [if_pos c3]) (out true rfl)
  refine Ev.congr (fun k => by rw [if_neg c3]) ?_
  by_cases c4 : other ≥ first
  · rw [if_pos (.inr (.inr (.inr c4)))]; exact out _ (decide_eq_true c4)
  rw [if_neg (by omega)]
  refine Ev.step (fun k => by rw [tamisref24_Check.j0, if_neg (by simpa using c4)]) ?_
  exact check_loop l first (by omega) l.length 0 (by omega)

/-! ### The tree -/
theorem ref_leaf (x : S113) (other next : Int) (h0 : 0 ≤ next) (h1 : next < 4611686018427387904) :
    Ev (fun k => tamisref24_Tree.j0 k other next 4294967295 (decide (x.f0 = 0 ∧ x.f1 = 4294967295)) x.f0 x.f1 x.f2) ((leafF x other next).1.map toI, (leafF x other next).2) := by
  by_cases c1 : x.f0 = 0 ∧ x.f1 = 4294967295
  · rw [show leafF x other next = ([⟨2, 0, 0, x.f2, 0⟩], next) by unfold leafF; rw [if_pos c1]]
    exact Ev.step (fun k => by rw [tamisref24_Tree.j0, if_pos (decide_eq_true c1)]; rfl) (Ev.now _)
  refine Ev.step (fun k => by rw [tamisref24_Tree.j0, if_neg (by simpa using c1)]) ?_
  by_cases c2 : x.f0 = x.f1
  · rw [show leafF x other next = ([⟨3, 21, x.f0, x.f2, other⟩], next) by unfold leafF; rw [if_neg c1, if_pos c2]]
    exact Ev.congr (fun k => by rw [if_pos c2]; rfl) (Ev.now _)
  refine Ev.congr (fun k => by rw [if_neg c2]) ?_
  by_cases c3 : x.f0 = 0
  · rw [show leafF x other next = ([⟨3, 37, x.f1, other, x.f2⟩], next) by unfold leafF; rw [if_neg c1, if_neg c2, if_pos c3]]
    exact Ev.congr (fun k => by rw [if_pos c3]; rfl) (Ev.now _)
  refine Ev.congr (fun k => by rw [if_neg c3]) ?_
  by_cases c4 : x.f1 = 4294967295
  · rw [show leafF x other next = ([⟨3, 53, x.f0, x.f2, other⟩], next) by unfold leafF; rw [if_neg c1, if_neg c2, if_neg c3, if_pos c4]]
    exact Ev.congr (fun k => by rw [if_pos c4]; rfl) (Ev.now _)
  rw [show leafF x other next = ([⟨3, 53, x.f0, next, other⟩, ⟨4, 0, 0, next, 0⟩, ⟨3, 37, x.f1, other, x.f2⟩], next + 1) by unfold leafF; rw [if_neg c1, if_neg c2, if_neg c3, if_neg c4]]
  exact Ev.congr (fun k => by rw [if_neg c4, ws (next + 1) (by omega) (by omega)]; rfl) (Ev.now _)
theorem tree_ev (other : Int) : ∀ (d : Nat) (l : List S113) (next : Int), l.length ≤ d → l.length ≤ 4096 → 0 ≤ next → next + 3 * l.length < 4611686018427387904 →
    Ev (fun k => tamisref24_Tree.f k (l.map toR) other next) ((rowsF d l other next).1.map toI, (rowsF d l other next).2)
  | 0, l, next, hd, hm, h0, h1 => by
    refine Ev.step (fun k => by rw [tamisref24_Tree.f, List.length_map, if_pos (by omega)]) ?_
    exact Ev.now _
  | d + 1, l, next, hd, hm, h0, h1 => by
    rw [rowsF]
    by_cases z : l.length = 0
    · rw [if_pos z]
      refine Ev.step (fun k => by rw [tamisref24_Tree.f, List.length_map, if_pos (by omega)]) ?_
      exact Ev.now _
    rw [if_neg z]
    by_cases y : l.length = 1
    · rw [if_pos y]
      refine Ev.step (fun k => by rw [tamisref24_Tree.f, List.length_map, if_neg (by omega), if_neg (by omega), if_pos (by omega)]) ?_
      have e : rd_T119 (l.map toR) 0 = toR (at_ l 0) := rd_ref l 0
      have H := ref_leaf (at_ l 0) other next h0 (by omega)
      by_cases c : (at_ l 0).f0 = 0
      · refine Ev.congr (fun k => by rw [e, if_pos (show (toR (at_ l 0)).f0 = 0 from c)]) ?_
        have eb : ((toR (at_ l 0)).f1 == 4294967295) = decide ((at_ l 0).f0 = 0 ∧ (at_ l 0).f1 = 4294967295) := by
          rw [Bool.eq_iff_iff]; simp [toR, c]
        rw [eb]
        exact H
      · refine Ev.congr (fun k => by rw [e, if_neg (show ¬ (toR (at_ l 0)).f0 = 0 from c)]) ?_
        rw [decide_eq_false (show ¬ ((at_ l 0).f0 = 0 ∧ (at_ l 0).f1 = 4294967295) from fun h => c h.1)] at H
        exact H
    · rw [if_neg y]
      have hh : wrap64 ((l.length : Int) / 2) = ((l.length / 2 : Nat) : Int) := by rw [ws _ (by omega) (by omega)]; omega
      have e1 : (l.take (l.length / 2)).length = l.length / 2 := by rw [List.length_take]; omega
      have e2 : (l.drop (l.length / 2)).length = l.length - l.length / 2 := List.length_drop
      obtain ⟨a1, a2, a3⟩ := rows_len d (l.take (l.length / 2)) other (next + 2) (by omega) (by omega)
      obtain ⟨b1, b2, b3⟩ := rows_len d (l.drop (l.length / 2)) other (rowsF d (l.take (l.length / 2)) other (next + 2)).2 (by omega) (by omega)
      have H1 := tree_ev other d (l.take (l.length / 2)) (next + 2) (by omega) (by omega) (by omega) (by omega)
      have H2 := tree_ev other d (l.drop (l.length / 2)) (rowsF d (l.take (l.length / 2)) other (next + 2)).2 (by omega) (by omega) (by omega) (by omega)
      rw [List.map_take] at H1
      rw [List.map_drop] at H2
      refine Ev.step (fun k => by rw [tamisref24_Tree.f, List.length_map, if_neg (by omega), if_pos (by omega), hh, if_pos (by omega), if_pos (by omega), Int.toNat_natCast, ws (next + 2) (by omega) (by omega), ws (next + 1) (by omega) (by omega)]) ?_
      refine Ev.bind H1 ?_
      refine Ev.bind H2 ?_
      have er : rd_T119 (l.map toR) ((l.length / 2 : Nat) : Int) = toR (at_ l (l.length / 2)) := rd_ref l _
      generalize hA : rowsF d (l.take (l.length / 2)) other (next + 2) = A at *
      generalize hB : rowsF d (l.drop (l.length / 2)) other A.2 = B at *
      have ea : tamisref24_ask.f 53 (toR (at_ l (l.length / 2))).f0 next (next + 1) = some (3, 53, (at_ l (l.length / 2)).f0, next, next + 1) := rfl
      have m1 : (A.1.map toI).length = A.1.length := List.length_map _
      have m2 : (B.1.map toI).length = B.1.length := List.length_map _
      refine Ev.congr (fun k => by rw [if_pos (by omega), er, ea, Option.bind_some, Option.bind_some, if_pos (by simp only [List.length_cons, List.length_nil]; omega), Option.bind_some, if_pos (by simp only [List.length_append, List.length_cons, List.length_nil]; omega), Option.bind_some, if_pos (by simp only [List.length_append, List.length_cons, List.length_nil]; omega)]) ?_
      have e : ([(⟨3, 53, (at_ l (l.length / 2)).f0, next, next + 1⟩ : S40), ⟨4, 0, 0, next + 1, 0⟩] ++ A.1 ++ [(⟨4, 0, 0, next, 0⟩ : S40)] ++ B.1).map toI = [(⟨3, 53, (at_ l (l.length / 2)).f0, next, next + 1⟩ : S38), ⟨4, 0, 0, next + 1, 0⟩] ++ A.1.map toI ++ [(⟨4, 0, 0, next, 0⟩ : S38)] ++ B.1.map toI := by
        simp only [List.map_append, List.map_cons, List.map_nil]; rfl
      show Ev _ (([(⟨3, 53, (at_ l (l.length / 2)).f0, next, next + 1⟩ : S40), ⟨4, 0, 0, next + 1, 0⟩] ++ A.1 ++ [(⟨4, 0, 0, next, 0⟩ : S40)] ++ (rowsF d (l.drop (l.length / 2)) other A.2).1).map toI, (rowsF d (l.drop (l.length / 2)) other A.2).2)
      rw [hB]
      rw [e]
      exact Ev.now _
theorem build_ev (l : List S113) (other first : Int) : Ev (fun k => tree_Build.f k l other first) (buildF l other first (wrongE l other first)) := by
  unfold tree_Build.f
  exact Ev.bind (wrong_ev l other first) (Ev.now _)
theorem awake_ev : Ev (fun k => tamislaw24_awake.f k) true := Ev.of (fun k => tamislaw24_awake.mono k) (show tamislaw24_awake.f 60 = some true by decide +kernel)
end Go.Proofs.Ytmjpibeiglicdaa.TreeL
