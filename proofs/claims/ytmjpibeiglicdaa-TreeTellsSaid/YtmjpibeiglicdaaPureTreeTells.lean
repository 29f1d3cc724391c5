/- TreeTells: any rows have the tree that the document says, item by item, or are refused; for all rows and labels. -/
import Derived.Test.YtmjpibeiglicdaaTreeM
import Derived.Test.YtmjpibeiglicdaaT6
import Derived.Test.YtmjpibeiglicdaaTArgs
namespace Go.Proofs.Ytmjpibeiglicdaa.Pure
open Go.RowKit Go.Proofs.Ytmjpibeiglicdaa.T Go.Proofs.YtmjpibeiglicdaaV.PrintWords Go.Proofs.YtmjpibeiglicdaaV.PrintLast Go.Proofs.YtmjpibeiglicdaaV.PrintMore
open Go.Proofs.Ytmjpibeiglicdaa.TreeB (leafF rowsF buildF rows_len leaf_len)
open Go.Proofs.Ytmjpibeiglicdaa.TreeL

theorem same_loop (L : List S38) (hl : L.length ≤ 1000000) : ∀ d i, i + d = L.length → Ev (fun k => tamislaw24_TreeTells.l0 k L L (L.length : Int) (i : Int)) true
  | 0, i, hi => Ev.step (fun k => by rw [tamislaw24_TreeTells.l0, if_neg (by omega)]) (Ev.now _)
  | d + 1, i, hi => by
    have ih := same_loop L hl d (i + 1) (by omega)
    exact Ev.step (fun k => by rw [tamislaw24_TreeTells.l0, if_pos (by omega), if_pos (by omega), if_pos (by omega), if_pos (by omega), if_neg (by simp), wn i (by omega)]) ih

theorem TreeTells (l : List S113) (_hw : ∀ x ∈ l, Wf113 x) (other : Int) (_w1 : (Lit.int .i64 other).wf = true) (first : Int) (_w2 : (Lit.int .i64 first).wf = true) : ∃ k, tamislaw24_TreeTells.f k l other first = some true := by
  apply Ev.rounds
  unfold tamislaw24_TreeTells.f
  refine Ev.bind awake_ev ?_
  refine Ev.congr (fun k => by rw [if_pos rfl]) ?_
  by_cases c : (l.length : Int) > 100
  · refine Ev.step (fun k => by rw [tamislaw24_TreeTells.j0, if_pos (decide_eq_true c)]) ?_
    exact Ev.bind awake_ev (Ev.now _)
  · refine Ev.step (fun k => by rw [tamislaw24_TreeTells.j0, if_neg (by simpa using c), Option.bind_some, if_pos (by simp; omega), List.nil_append]) ?_
    refine Ev.bind (build_ev l other first) ?_
    refine Ev.bind (own_ev l (by omega)) ?_
    refine Ev.bind (check_ev l other first) ?_
    by_cases z : wrongE l other first = 0
    · obtain ⟨q0, q1, q2, q3, q4, _⟩ := wrong_ok z
      have e : buildF l other first (wrongE l other first) = ((rowsF l.length l other first).1, (rowsF l.length l other first).2, 0) := by unfold buildF; rw [if_pos z]
      rw [e]
      refine Ev.congr (fun k => by rw [if_pos z]) ?_
      refine Ev.bind (own_ev l (by omega)) ?_
      refine Ev.bind (tree_ev other l.length l first (Nat.le_refl _) q0 (by omega) (by omega)) ?_
      have hlen : (rowsF l.length l other first).1.length ≤ 1000 := by
        by_cases y : l.length = 0
        · rw [y, rowsF]; simp
        · have := (rows_len l.length l other first (by omega) (Nat.le_refl _)).1; omega
      refine Ev.congr (fun k => by rw [if_pos rfl, if_pos rfl]) ?_
      refine Ev.step (fun k => by rw [tamislaw24_TreeTells.j1, if_neg (by simp)]) ?_
      refine Ev.bind (Own_ev (rowsF l.length l other first).1 (by omega)) ?_
      have H := same_loop ((rowsF l.length l other first).1.map toI) (by rw [List.length_map]; omega) _ 0 (Nat.zero_add _)
      exact H
    · have e : buildF l other first (wrongE l other first) = ([], 0, wrongE l other first) := by unfold buildF; rw [if_neg z]
      rw [e]
      exact Ev.congr (fun k => by rw [if_neg z, if_pos rfl, if_pos rfl]; rfl) (Ev.now true)

end Go.Proofs.Ytmjpibeiglicdaa.Pure
