/- emit: where labels are marked for the last time. -/
import Derived.Test.YtmjpibeiglicdaaE0
import Derived.Test.YtmjpibeiglicdaaMapI
import Derived.IntWalk
import Derived.Outline
namespace Go.Proofs.Ytmjpibeiglicdaa.EmitB
open Go.RowKit Go.Proofs.Ytmjpibeiglicdaa.E Go.Proofs.YtmjpibeiglicdaaU.PrintWords Go.Proofs.YtmjpibeiglicdaaU.PrintLast Go.Proofs.YtmjpibeiglicdaaU.PrintMore
open Go.Proofs.Ytmjpibeiglicdaa.MapI (wf upd Is)
set_option linter.unusedVariables false
set_option linter.unusedSimpArgs false

def at_ (l : List S40) (i : Nat) : S40 := l.getD i z40
/-- Where labels are marked for the last time among the first items. -/
def lastM (l : List S40) : Nat → Int → Option Int
  | 0 => fun _ => none
  | i + 1 => if (at_ l i).f0 = 4 then upd (lastM l i) (at_ l i).f3 (i : Int) else lastM l i
/-- The labels are whole numbers of 64 bits. -/
def WfI (l : List S40) : Prop := ∀ i, wf (at_ l i).f3 ∧ wf (at_ l i).f4
theorem wf_nat (n : Nat) (h : n < 9223372036854775808) : wf (n : Int) := by
  unfold wf
  simp only [Lit.wf, decide_eq_true_eq, Bool.and_eq_true]
  have e1 : IntKind.i64.min = -9223372036854775808 := by decide
  have e2 : IntKind.i64.max = 9223372036854775807 := by decide
  omega

set_option maxHeartbeats 4000000 in
set_option maxRecDepth 100000 in
theorem marks_calls (A : Option Addr) (c : Nat) (l : List S40) (w : World) (hr : Kd.C k40 w A l.length l) (hw : WfI l) (hl : l.length ≤ 65536) :
    Calls Try.prog 86 #[.slice A l.length c] w fun e w' => ∃ b, e = .returned (.map (some b)) ∧ w.heap.size ≤ b ∧ Is w' b l.length (lastM l l.length) ∧ Below w.heap.size w w' := by
  have hu40 := Try.underlying40
  have hmm := @run_makeMap Try.prog
  have HR := Aside0.mk hr
  have HW := Aside0.mk hw
  clear hr hw
  go_enter Try.func86, Try.ntmps86
  go_wp2
  go_loopw [9] (fun i wr => ∃ k : Nat, k ≤ l.length ∧ i = .int .i64 k ∧ Is wr w.heap.size k (lastM l k) ∧ Below w.heap.size w wr) (fun i _ => l.length - (intOf i).toNat)
  case atStart => exact ⟨0, Nat.zero_le _, rfl, MapI.made w, (Below.refl _ _).alloc (Nat.le_refl _) _⟩
  case round =>
    obtain ⟨k, hk, rfl, hown, hnx⟩ := hrel
    have HO := Aside0.mk hown
    have HB := Aside0.mk hnx
    clear hown hnx
    by_cases hlt : k < l.length
    · obtain ⟨ad, rfl, c0, c1, c2, c3, c4⟩ := at_T40 (Kd.C_below HR.out HB.out) (k : Int) (by omega) (by omega)
      have ex : rd_T40 l (k : Int) = at_ l k := rfl
      rw [ex] at c0 c1 c2 c3 c4
      rw [Int.toNat_natCast] at c0 c1 c2 c3 c4
      obtain ⟨x, hx⟩ : ∃ x, at_ l k = x := ⟨_, rfl⟩
      rw [hx] at c0 c1 c2 c3 c4
      have HX := Aside0.mk hx
      clear hx ex
      by_cases h4 : x.f0 = 4
      · have t4 : (x.f0 == 4) = true := beq_iff_eq.2 h4
        clear h4
        have WK : wf x.f3 := by rw [← HX.out]; exact (HW.out k).1
        have WY : wf (k : Int) := wf_nat k (by omega)
        have HWK := Aside0.mk WK
        have HWY := Aside0.mk WY
        clear WK WY
        go_wp2_with (at_mapUpdate; refine MapI.wp_set rfl _ _ _ rfl rfl (HO.out.kept (row := none) (World.grownBy_alloc _ _ _) (by simp)) (by unfold maxLen; omega) x.f3 (k : Int) rfl rfl HWK.out HWY.out ?_; intro w1 hi hg; have HI := Aside0.mk hi; have HG := Aside0.mk hg; have HB1 := Aside0.mk ((below_alloc HB.out _).grown hg (by simp; have := HB.out.size; omega) (fun j hj => by cases hj; exact Nat.le_refl _)); clear hi hg)
        go_roundw
        case rel => exact ⟨k + 1, by omega, by go_num, by rw [lastM, HX.out, if_pos (beq_iff_eq.1 t4)]; exact HI.out, HB1.out⟩
        case measure => simp [intOf]; omega
      · have t4 : (x.f0 == 4) = false := beq_eq_false_iff_ne.2 h4
        clear h4
        go_wp2
        go_roundw
        case rel => exact ⟨k + 1, by omega, by go_num, by rw [lastM, HX.out, if_neg (beq_eq_false_iff_ne.1 t4)]; exact (HO.out.kept (row := none) (World.grownBy_alloc _ _ _) (by simp)).mono (Nat.le_succ _), below_alloc HB.out _⟩
        case measure => simp [intOf]; omega
    · have : k = l.length := by omega
      subst this
      go_wp2
      go_ret
      exact ⟨_, rfl, Nat.le_refl _, HO.out, HB.out⟩
end Go.Proofs.Ytmjpibeiglicdaa.EmitB
