/- EmitTells: any items are laid out as the document says, or are refused; for all items. -/
import Derived.Test.YtmjpibeiglicdaaEmitS
import Derived.Test.YtmjpibeiglicdaaE8
import Derived.Test.YtmjpibeiglicdaaEArgs
namespace Go.Proofs.Ytmjpibeiglicdaa.Pure
open Go.RowKit Go.Proofs.Ytmjpibeiglicdaa.E Go.Proofs.YtmjpibeiglicdaaU.PrintWords Go.Proofs.YtmjpibeiglicdaaU.PrintLast Go.Proofs.YtmjpibeiglicdaaU.PrintMore
open Go.Proofs.Ytmjpibeiglicdaa.EmitB (wfB chk places placeAt put_len)
open Go.Proofs.Ytmjpibeiglicdaa.EmitP
open Go.Proofs.Ytmjpibeiglicdaa.RefE (ws wn check_ev)

theorem wfB_of {l : List S40} (hw : ∀ x ∈ l, Wf40 x) : wfB l = true := by
  unfold EmitB.wfB
  rw [List.all_eq_true]
  intro x hx
  have := hw x hx
  unfold Wf40 at this
  rw [this.2.2.2.1, this.2.2.2.2]; rfl
theorem refcheck_ev (l : List S40) (hl : l.length ≤ 1000000) : Ev (fun k => tamisref23_Check.f k (l.map toI)) (chk l) := by
  rw [← chk_ref]
  exact check_ev _ (by rw [List.length_map]; exact hl)
theorem awakeE : tamislaw23_awake.f = some true := rfl
theorem tells_loop (L A : List S56) (c : Int) (R : List Bool) (hl : R.length ≤ 1000000) (hA : A.length ≤ 1000000) (hc : (A.length : Int) > 4096 ∧ c = 14 ∧ L = [] ∨ ¬ (A.length : Int) > 4096 ∧ c = 0 ∧ L = A) :
    ∀ d i, i + d = R.length → Ev (fun k => tamislaw23_EmitTells.l0 k L c R A R (R.length : Int) (i : Int)) true
  | 0, i, hi => by
    refine Ev.step (fun k => by rw [tamislaw23_EmitTells.l0, if_neg (by omega)]) ?_
    rcases hc with ⟨h1, h2, h3⟩ | ⟨h1, h2, h3⟩
    · rw [h3]; exact Ev.congr (fun k => by rw [if_pos h1, if_pos h2]; rfl) (Ev.now true)
    · rw [h3]
      refine Ev.congr (fun k => by rw [if_neg h1, if_pos h2]) ?_
      exact Ev.bind (same_ev A hA) (Ev.now _)
  | d + 1, i, hi => by
    have ih := tells_loop L A c R hl hA hc d (i + 1) (by omega)
    exact Ev.step (fun k => by rw [tamislaw23_EmitTells.l0, if_pos (by omega), if_pos (by omega), if_pos (by omega), if_pos (by omega), if_neg (by simp), wn i (by omega)]) ih

theorem EmitTells (l : List S40) (hw : ∀ x ∈ l, Wf40 x) : ∃ k, tamislaw23_EmitTells.f k l = some true := by
  apply Ev.rounds
  unfold tamislaw23_EmitTells.f
  refine Ev.congr (fun k => by rw [awakeE, Option.bind_some, if_pos rfl]) ?_
  by_cases c : (l.length : Int) > 700
  · exact Ev.step (fun k => by rw [tamislaw23_EmitTells.j0, if_pos (decide_eq_true c), awakeE]; rfl) (Ev.now true)
  have hB := wfB_of hw
  refine Ev.step (fun k => by rw [tamislaw23_EmitTells.j0, if_neg (by simpa using c)]) ?_
  refine Ev.bind (Own_ev l (by omega)) ?_
  refine Ev.congr (fun k => by rw [Option.bind_some, if_pos (by simp only [List.length_nil]; omega), List.nil_append, prog_chk hB, Option.bind_some]) ?_
  refine Ev.bind (refcheck_ev l (by omega)) ?_
  refine Ev.congr (fun k => by rw [Option.bind_some, if_pos (by simp only [List.length_nil]; omega), List.nil_append]) ?_
  by_cases z : (chk l).2 = 0
  · have hF := (fine_iff l).1 z
    obtain ⟨R, hD, hR, hL⟩ := long_ev hF
    obtain ⟨e1, e2, e3⟩ := prog_fine hB hF hR
    have e4 := emit_ev hF hD hL
    have hpl := put_place hD (places l R) l.length (Nat.le_refl _)
    have hlen := put_len l (places l R) R l.length
    refine Ev.bind e3 ?_
    refine Ev.bind e2 ?_
    refine Ev.bind e1 ?_
    rw [z]
    refine Ev.congr (fun k => by rw [if_pos rfl, if_pos rfl, if_pos rfl]) ?_
    refine Ev.step (fun k => by rw [tamislaw23_EmitTells.j1, if_neg (by simp), if_pos rfl]) ?_
    refine Ev.bind e4 ?_
    refine Ev.bind hL ?_
    refine Ev.congr (fun k => by rw [if_pos hpl.symm]) ?_
    refine Ev.step (fun k => by rw [tamislaw23_EmitTells.j2, if_neg (by simp)]) ?_
    refine tells_loop _ _ _ R (by rw [hD.len]; omega) (by omega) ?_ R.length 0 (by omega)
    by_cases y : placeAt l R l.length > 4096
    · rw [if_pos y]; exact .inl ⟨by rw [hpl]; exact y, rfl, rfl⟩
    · rw [if_neg y]; exact .inr ⟨by rw [hpl]; exact y, rfl, rfl⟩
  · obtain ⟨e1, e2, e3⟩ := prog_bad hB z
    refine Ev.bind e3 ?_
    refine Ev.bind e2 ?_
    refine Ev.bind e1 ?_
    refine Ev.congr (fun k => by rw [if_pos rfl, if_pos rfl, if_pos rfl]) ?_
    exact Ev.step (fun k => by rw [tamislaw23_EmitTells.j1, if_neg (by simp), if_neg z, if_pos rfl]; rfl) (Ev.now true)
end Go.Proofs.Ytmjpibeiglicdaa.Pure
