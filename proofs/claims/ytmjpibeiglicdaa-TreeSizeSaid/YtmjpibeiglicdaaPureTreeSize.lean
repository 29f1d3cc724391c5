/- TreeSize: a tree has no more than three questions and jumps for each row; its items, with a place for each label behind them, may be; for all rows and labels. -/
import Derived.Test.YtmjpibeiglicdaaTreeM
import Derived.Test.YtmjpibeiglicdaaTArgs
namespace Go.Proofs.Ytmjpibeiglicdaa.Pure
open Go.RowKit Go.Proofs.Ytmjpibeiglicdaa.T Go.Proofs.YtmjpibeiglicdaaV.PrintWords Go.Proofs.YtmjpibeiglicdaaV.PrintLast Go.Proofs.YtmjpibeiglicdaaV.PrintMore
open Go.Proofs.Ytmjpibeiglicdaa.TreeB (leafF rowsF buildF rows_len leaf_len)
open Go.Proofs.Ytmjpibeiglicdaa.TreeL

theorem fits_ev (l : List S113) (other first : Int) : Ev (fun k => tamislaw24_fits.f k l other first) (decide (l.length ≤ 60 ∧ first ≤ 60 ∧ wrongE l other first = 0)) := by
  unfold tamislaw24_fits.f
  by_cases c : (l.length : Int) ≤ 60
  · refine Ev.congr (fun k => by rw [if_pos c]) ?_
    by_cases c2 : first ≤ 60
    · refine Ev.congr (fun k => by rw [if_pos c2]) ?_
      refine Ev.bind (own_ev l (by omega)) ?_
      refine Ev.bind (check_ev l other first) ?_
      have e : (wrongE l other first == 0) = decide (l.length ≤ 60 ∧ first ≤ 60 ∧ wrongE l other first = 0) := by
        rw [Bool.eq_iff_iff, beq_iff_eq, decide_eq_true_eq]; omega
      rw [e]; exact Ev.now _
    · rw [decide_eq_false (by omega)]; exact Ev.congr (fun k => by rw [if_neg c2]) (Ev.now _)
  · rw [decide_eq_false (by omega)]; exact Ev.congr (fun k => by rw [if_neg c]) (Ev.now _)
theorem tail_loop (base : List S40) (hb : base.length ≤ 100000) (first : Int) (h0 : 0 ≤ first) (h1 : first ≤ 60) : ∀ d i : Nat, i + d = first.toNat → Ev (fun k => tamislaw24_whole.l0 k 0 (base ++ tailL i) first (i : Int)) (base ++ tailL first.toNat, true)
  | 0, i, hi => by
    obtain rfl : i = first.toNat := by omega
    exact Ev.step (fun k => by rw [tamislaw24_whole.l0, if_neg (by omega)]; rfl) (Ev.now _)
  | d + 1, i, hi => by
    have ih := tail_loop base hb first h0 h1 d (i + 1) (by omega)
    rw [tailL, ← List.append_assoc] at ih
    have e : (i : Int) % 4294967296 = (i : Int) := Int.emod_eq_of_lt (by omega) (by omega)
    refine Ev.step (fun k => by rw [tamislaw24_whole.l0, if_pos (by omega), Option.bind_some, if_pos (by rw [List.length_append, tail_len]; simp only [List.length_cons, List.length_nil]; omega), wn i (by omega), e]) ?_
    exact ih
theorem whole_ev {l : List S113} {other first : Int} (hw : wrongE l other first = 0) (hn : 0 < l.length) (hl : l.length ≤ 60) (hf : first ≤ 60) (n : Int) :
    Ev (fun k => tamislaw24_whole.f k l other first n) ((⟨1, 0, n, 0, 0⟩ : S40) :: (rowsF l.length l other first).1 ++ tailL first.toNat, true) := by
  obtain ⟨_, q1, q2, q3, q4, _⟩ := wrong_ok hw
  obtain ⟨r1, r2, r3⟩ := rows_len l.length l other first hn (Nat.le_refl _)
  have e : buildF l other first (wrongE l other first) = ((rowsF l.length l other first).1, (rowsF l.length l other first).2, 0) := by unfold buildF; rw [if_pos hw]
  unfold tamislaw24_whole.f
  refine Ev.bind (build_ev l other first) ?_
  rw [e]
  refine Ev.congr (fun k => by rw [Option.bind_some, if_pos (by simp only [List.length_cons, List.length_nil]; omega)]) ?_
  have H := tail_loop ((⟨1, 0, n, 0, 0⟩ : S40) :: (rowsF l.length l other first).1) (by rw [List.length_cons]; omega) first (by omega) hf first.toNat 0 (by omega)
  rw [show tailL 0 = [] from rfl, List.append_nil] at H
  exact H

/-- How many items are labels. -/
def mk (I : List S40) : Nat := (marksOf (I.map toI)).length
theorem mk_cons (x : S40) (I : List S40) : mk (x :: I) = (if x.f0 = 4 then 1 else 0) + mk I := by
  unfold mk
  rw [List.map_cons, marks_cons, List.length_append]
  by_cases c : x.f0 = 4
  · rw [if_pos (show (toI x).f0 = 4 from c), if_pos c]; rfl
  · rw [if_neg (show ¬ (toI x).f0 = 4 from c), if_neg c]; rfl
theorem mk_le (I : List S40) : mk I ≤ I.length := by
  induction I with
  | nil => exact Nat.le_refl _
  | cons x r ih => rw [mk_cons, List.length_cons]; split <;> omega
theorem size_loop (l : List S113) (other first next : Int) (I : List S40) (hI : I.length ≤ 100000) (P Q : Nat) (r : Bool)
    (H : Ev (fun k => tamislaw24_TreeSize.l0 k l other first next 0 (P : Int) (Q : Int) I (I.length : Int) (I.length : Int)) r) (hr : ∀ x ∈ I, x.f0 = 4 → first ≤ x.f3 ∧ x.f3 < next) :
    ∀ (d i p q : Nat), i + d = I.length → p + ((I.drop i).length - mk (I.drop i)) = P → q + mk (I.drop i) = Q → p ≤ i → q ≤ i → Ev (fun k => tamislaw24_TreeSize.l0 k l other first next 0 (p : Int) (q : Int) I (I.length : Int) (i : Int)) r
  | 0, i, p, q, hi, hp, hq, _, _ => by
    obtain rfl : i = I.length := by omega
    rw [List.drop_length] at hp hq
    have e1 : p = P := by have : mk ([] : List S40) = 0 := rfl; simp only [List.length_nil] at hp; omega
    have e2 : q = Q := by have : mk ([] : List S40) = 0 := rfl; omega
    rw [e1, e2]; exact H
  | d + 1, i, p, q, hi, hp, hq, hpi, hqi => by
    have hlt : i < I.length := by omega
    have hd : I.drop i = I[i] :: I.drop (i + 1) := List.drop_eq_getElem_cons hlt
    have er : rd_T40 I (i : Int) = I[i] := by unfold rd_T40; rw [Int.toNat_natCast, List.getD_eq_getElem?_getD, List.getElem?_eq_getElem hlt]; rfl
    have hle := mk_le (I.drop (i + 1))
    rw [hd, mk_cons, List.length_cons] at hp
    rw [hd, mk_cons] at hq
    refine Ev.step (fun k => by rw [tamislaw24_TreeSize.l0, if_pos (by omega), if_pos (by omega), if_pos (by omega), er, wn i (by omega), wn p (by omega), wn q (by omega)]) ?_
    by_cases c : I[i].f0 = 4
    · obtain ⟨h1, h2⟩ := hr _ (List.getElem_mem hlt) c
      rw [if_pos c] at hp hq
      refine Ev.congr (fun k => by rw [if_pos c, if_neg (by omega), if_neg (by omega)]) ?_
      exact size_loop l other first next I hI P Q r H hr d (i + 1) p (q + 1) (by omega) (by omega) (by omega) (by omega) (by omega)
    · rw [if_neg c] at hp hq
      refine Ev.congr (fun k => by rw [if_neg c]) ?_
      exact size_loop l other first next I hI P Q r H hr d (i + 1) (p + 1) q (by omega) (by omega) (by omega) (by omega) (by omega)

theorem TreeSize (l : List S113) (_hw : ∀ x ∈ l, Wf113 x) (other : Int) (_w1 : (Lit.int .i64 other).wf = true) (first : Int) (_w2 : (Lit.int .i64 first).wf = true) : ∃ k, tamislaw24_TreeSize.f k l other first = some true := by
  apply Ev.rounds
  unfold tamislaw24_TreeSize.f
  refine Ev.bind awake_ev ?_
  refine Ev.congr (fun k => by rw [if_pos rfl]) ?_
  have out : Ev (fun k => tamislaw24_TreeSize.j0 k l other first true) true := by
    refine Ev.step (fun k => by rw [tamislaw24_TreeSize.j0, if_pos rfl]) ?_
    exact Ev.bind awake_ev (Ev.now _)
  by_cases n : (l.length : Int) = 0
  · exact Ev.congr (fun k => by rw [if_pos n]) out
  refine Ev.congr (fun k => by rw [if_neg n]) ?_
  refine Ev.bind (fits_ev l other first) ?_
  by_cases c : l.length ≤ 60 ∧ first ≤ 60 ∧ wrongE l other first = 0
  · obtain ⟨hl, hf, z⟩ := c
    obtain ⟨q0, q1, q2, q3, q4, _⟩ := wrong_ok z
    have hn : 0 < l.length := by omega
    obtain ⟨r1, r2, r3⟩ := rows_len l.length l other first hn (Nat.le_refl _)
    have F := fair_rows first other ⟨q3, q4⟩ l.length l first hn (Nat.le_refl _) (to_of z) (Int.le_refl _)
    rw [decide_eq_true ⟨hl, hf, z⟩]
    refine Ev.step (fun k => by rw [tamislaw24_TreeSize.j0, if_neg (by decide)]) ?_
    refine Ev.bind (build_ev l other first) ?_
    have e : buildF l other first (wrongE l other first) = ((rowsF l.length l other first).1, (rowsF l.length l other first).2, 0) := by unfold buildF; rw [if_pos z]
    rw [e]
    have hmk : (mk (rowsF l.length l other first).1 : Int) = (rowsF l.length l other first).2 - first := F.marks
    have hrest := F.rest
    rw [List.length_map] at hrest
    have hle := mk_le (rowsF l.length l other first).1
    refine size_loop l other first (rowsF l.length l other first).2 (rowsF l.length l other first).1 (by omega) ((rowsF l.length l other first).1.length - mk (rowsF l.length l other first).1) (mk (rowsF l.length l other first).1) true ?_ ?_ (rowsF l.length l other first).1.length 0 0 0 (by omega) (by rw [List.drop_zero]; omega) (by rw [List.drop_zero]; omega) (Nat.le_refl _) (Nat.le_refl _)
    · refine Ev.step (fun k => by rw [tamislaw24_TreeSize.l0, if_neg (by omega)]) ?_
      refine Ev.bind (whole_ev z hn hl hf 0) ?_
      have hlen : ((⟨1, 0, 0, 0, 0⟩ : S40) :: (rowsF l.length l other first).1 ++ tailL first.toNat).length ≤ 1000000 := by
        rw [List.length_append, List.length_cons, tail_len]; omega
      refine Ev.bind (Own_ev _ hlen) ?_
      refine Ev.bind (RefT.check_ev _ (by rw [List.length_map]; exact hlen)) ?_
      rw [whole_ok z hn hl hf 0]
      have w3 : wrap64 (3 * (l.length : Int)) = 3 * (l.length : Int) := ws _ (by omega) (by omega)
      have wd : wrap64 ((rowsF l.length l other first).2 - first) = (rowsF l.length l other first).2 - first := ws _ (by omega) (by omega)
      have hm : mk (rowsF l.length l other first).1 = (marksOf ((rowsF l.length l other first).1.map toI)).length := rfl
      refine Ev.congr (fun k => by rw [if_pos rfl, if_pos rfl, if_pos rfl, w3, wd, if_pos (by omega)]) ?_
      rw [← hmk, beq_self_eq_true]
      exact Ev.now _
    · intro x hx h4
      exact F.range x.f3 (List.mem_map.2 ⟨toI x, List.mem_filter.2 ⟨List.mem_map.2 ⟨x, hx, rfl⟩, decide_eq_true h4⟩, rfl⟩)
  · rw [decide_eq_false c]; exact out

end Go.Proofs.Ytmjpibeiglicdaa.Pure
