/- Functions of the program as plain Lean functions, and their contracts; written by a program out of the translation. -/
import Derived.Test.YtmjpibeiglicdaaE0
import Derived.Test.YtmjpibeiglicdaaE2
import Derived.Test.YtmjpibeiglicdaaE4
import Derived.Test.YtmjpibeiglicdaaE5
import Derived.Test.YtmjpibeiglicdaaE6
import Derived.Test.YtmjpibeiglicdaaE7
namespace Go.Proofs.Ytmjpibeiglicdaa.E
open Go.RowKit Go.Proofs.YtmjpibeiglicdaaU.PrintWords Go.Proofs.YtmjpibeiglicdaaU.PrintLast Go.Proofs.YtmjpibeiglicdaaU.PrintMore
attribute [local go_sem] max2_int min2_int max_two min_two max_three min_three max_four min_four   -- for this text's walks alone
set_option linter.unusedVariables false
set_option linter.unusedSimpArgs false

/-! ### tamislaw23_EmitTells: function 12 -/
mutual
def tamislaw23_EmitTells.j0 : Nat → List (S40) → Bool → Option (Bool)
  | 0, _, _ => none
  | k + 1, x0, x23 => if x23 = true then ((tamislaw23_awake.f).bind fun t201 => (some t201)) else ((tamislaw23_Own.f k x0).bind fun t202 => ((some (([] : List (S40)) : List (S40))).bind fun y205 => (if y205.length + x0.length < 4398046511104 then ((emit_Check.f (y205 ++ x0)).bind fun bt211 => ((tamisref23_Check.f k t202).bind fun bt213 => ((some (([] : List (S40)) : List (S40))).bind fun y215 => (if y215.length + x0.length < 4398046511104 then ((emit_Emit.f k (y215 ++ x0)).bind fun bt221 => ((emit_Size.f k x0).bind fun bt225 => ((emit_Long.f k x0).bind fun bt227 => (if bt211.1 = bt213.1 then (if bt211.2 = bt213.2 then (if bt225.2 = bt211.2 then (tamislaw23_EmitTells.j1 k t202 bt211.2 bt213.2 bt221.1 bt221.2 bt225.1 bt227.1 (bt227.2 != bt211.2)) else (tamislaw23_EmitTells.j1 k t202 bt211.2 bt213.2 bt221.1 bt221.2 bt225.1 bt227.1 true)) else (tamislaw23_EmitTells.j1 k t202 bt211.2 bt213.2 bt221.1 bt221.2 bt225.1 bt227.1 true)) else (tamislaw23_EmitTells.j1 k t202 bt211.2 bt213.2 bt221.1 bt221.2 bt225.1 bt227.1 true))))) else (none))))) else (none))))
def tamislaw23_EmitTells.j1 : Nat → List (S38) → Int → Int → List (S56) → Int → Int → List Bool → Bool → Option (Bool)
  | 0, _, _, _, _, _, _, _, _ => none
  | k + 1, x3, x5, x7, x8, x9, x10, x12, x73 => if x73 = true then (some false) else (if x7 = 0 then ((tamisref23_Emit.f k x3).bind fun t231 => ((tamisref23_Long.f k x3).bind fun t234 => (if x10 = (t231.length : Int) then (tamislaw23_EmitTells.j2 k x8 x9 x12 t231 t234 ((x12.length : Int) != (t234.length : Int))) else (tamislaw23_EmitTells.j2 k x8 x9 x12 t231 t234 true)))) else (if x9 = x5 then (if (x8.length : Int) = 0 then (if x10 = 0 then (some ((x12.length : Int) == 0)) else (some false)) else (some false)) else (some false)))
def tamislaw23_EmitTells.j2 : Nat → List (S56) → Int → List Bool → List (S56) → List Bool → Bool → Option (Bool)
  | 0, _, _, _, _, _, _ => none
  | k + 1, x8, x9, x12, x14, x15, x107 => if x107 = true then (some false) else (tamislaw23_EmitTells.l0 k x8 x9 x12 x14 x15 (x12.length : Int) 0)
def tamislaw23_EmitTells.l0 : Nat → List (S56) → Int → List Bool → List (S56) → List Bool → Int → Int → Option (Bool)
  | 0, _, _, _, _, _, _, _ => none
  | k + 1, x8, x9, x12, x14, x15, x109, x110 => if x110 < x109 then (if 0 ≤ x110 then (if x110 < (x12.length : Int) then (if x110 < (x15.length : Int) then (if ((rdOf false x12 x110) != (rdOf false x15 x110)) = true then (some false) else (tamislaw23_EmitTells.l0 k x8 x9 x12 x14 x15 x109 (wrap64 (x110 + 1)))) else (none)) else (none)) else (none)) else (if (x14.length : Int) > 4096 then (if x9 = 14 then (some ((x8.length : Int) == 0)) else (some false)) else (if x9 = 0 then ((tamisref02_Same.f k x8 x14).bind fun t239 => (some t239)) else (some false)))
end
def tamislaw23_EmitTells.f (k : Nat) (l0 : List (S40)) : Option (Bool) := (tamislaw23_awake.f).bind fun t200 => (if t200 = true then (tamislaw23_EmitTells.j0 k l0 (decide ((l0.length : Int) > 700))) else (tamislaw23_EmitTells.j0 k l0 true))
theorem tamislaw23_EmitTells.mono_l : ∀ k, (∀ y0 y1, LeO (tamislaw23_EmitTells.j0 k y0 y1) (tamislaw23_EmitTells.j0 (k + 1) y0 y1)) ∧ (∀ y0 y1 y2 y3 y4 y5 y6 y7, LeO (tamislaw23_EmitTells.j1 k y0 y1 y2 y3 y4 y5 y6 y7) (tamislaw23_EmitTells.j1 (k + 1) y0 y1 y2 y3 y4 y5 y6 y7)) ∧ (∀ y0 y1 y2 y3 y4 y5, LeO (tamislaw23_EmitTells.j2 k y0 y1 y2 y3 y4 y5) (tamislaw23_EmitTells.j2 (k + 1) y0 y1 y2 y3 y4 y5)) ∧ (∀ y0 y1 y2 y3 y4 y5 y6, LeO (tamislaw23_EmitTells.l0 k y0 y1 y2 y3 y4 y5 y6) (tamislaw23_EmitTells.l0 (k + 1) y0 y1 y2 y3 y4 y5 y6))
  | 0 => ⟨fun _ _ r h => by simp [tamislaw23_EmitTells.j0] at h, fun _ _ _ _ _ _ _ _ r h => by simp [tamislaw23_EmitTells.j1] at h, fun _ _ _ _ _ _ r h => by simp [tamislaw23_EmitTells.j2] at h, fun _ _ _ _ _ _ _ r h => by simp [tamislaw23_EmitTells.l0] at h⟩
  | k + 1 => by
    obtain ⟨ih0, ih1, ih2, ih3⟩ := tamislaw23_EmitTells.mono_l k
    refine ⟨?_, ?_, ?_, ?_⟩
    · intro y0 y1
      unfold tamislaw23_EmitTells.j0
      repeat' first
      | (with_reducible exact ih0 _ _)
      | (with_reducible exact ih1 _ _ _ _ _ _ _ _)
      | (with_reducible exact ih2 _ _ _ _ _ _)
      | (with_reducible exact ih3 _ _ _ _ _ _ _)
      | (with_reducible exact emit_Emit.mono _ _)
      | (with_reducible exact emit_Long.mono _ _)
      | (with_reducible exact emit_Size.mono _ _)
      | (with_reducible exact tamislaw23_Own.mono _ _)
      | (with_reducible exact tamisref02_Same.mono _ _ _)
      | (with_reducible exact tamisref23_Check.mono _ _)
      | (with_reducible exact tamisref23_Emit.mono _ _)
      | (with_reducible exact tamisref23_Long.mono _ _)
      | (with_reducible exact LeO.refl _)
      | (with_reducible exact LeO.none _)
      | (with_reducible refine LeO.ite ?_ ?_)
      | (with_reducible refine LeO.bind ?_ (fun _ => ?_))
      | exact ih0 _ _
      | exact ih1 _ _ _ _ _ _ _ _
      | exact ih2 _ _ _ _ _ _
      | exact ih3 _ _ _ _ _ _ _
      | exact emit_Emit.mono _ _
      | exact emit_Long.mono _ _
      | exact emit_Size.mono _ _
      | exact tamislaw23_Own.mono _ _
      | exact tamisref02_Same.mono _ _ _
      | exact tamisref23_Check.mono _ _
      | exact tamisref23_Emit.mono _ _
      | exact tamisref23_Long.mono _ _
      | exact LeO.none _
      | refine LeO.ite ?_ ?_
      | refine LeO.bind ?_ (fun _ => ?_)
    · intro y0 y1 y2 y3 y4 y5 y6 y7
      unfold tamislaw23_EmitTells.j1
      repeat' first
      | (with_reducible exact ih0 _ _)
      | (with_reducible exact ih1 _ _ _ _ _ _ _ _)
      | (with_reducible exact ih2 _ _ _ _ _ _)
      | (with_reducible exact ih3 _ _ _ _ _ _ _)
      | (with_reducible exact emit_Emit.mono _ _)
      | (with_reducible exact emit_Long.mono _ _)
      | (with_reducible exact emit_Size.mono _ _)
      | (with_reducible exact tamislaw23_Own.mono _ _)
      | (with_reducible exact tamisref02_Same.mono _ _ _)
      | (with_reducible exact tamisref23_Check.mono _ _)
      | (with_reducible exact tamisref23_Emit.mono _ _)
      | (with_reducible exact tamisref23_Long.mono _ _)
      | (with_reducible exact LeO.refl _)
      | (with_reducible exact LeO.none _)
      | (with_reducible refine LeO.ite ?_ ?_)
      | (with_reducible refine LeO.bind ?_ (fun _ => ?_))
      | exact ih0 _ _
      | exact ih1 _ _ _ _ _ _ _ _
      | exact ih2 _ _ _ _ _ _
      | exact ih3 _ _ _ _ _ _ _
      | exact emit_Emit.mono _ _
      | exact emit_Long.mono _ _
      | exact emit_Size.mono _ _
      | exact tamislaw23_Own.mono _ _
      | exact tamisref02_Same.mono _ _ _
      | exact tamisref23_Check.mono _ _
      | exact tamisref23_Emit.mono _ _
      | exact tamisref23_Long.mono _ _
      | exact LeO.none _
      | refine LeO.ite ?_ ?_
      | refine LeO.bind ?_ (fun _ => ?_)
    · intro y0 y1 y2 y3 y4 y5
      unfold tamislaw23_EmitTells.j2
      repeat' first
      | (with_reducible exact ih0 _ _)
      | (with_reducible exact ih1 _ _ _ _ _ _ _ _)
      | (with_reducible exact ih2 _ _ _ _ _ _)
      | (with_reducible exact ih3 _ _ _ _ _ _ _)
      | (with_reducible exact emit_Emit.mono _ _)
      | (with_reducible exact emit_Long.mono _ _)
      | (with_reducible exact emit_Size.mono _ _)
      | (with_reducible exact tamislaw23_Own.mono _ _)
      | (with_reducible exact tamisref02_Same.mono _ _ _)
      | (with_reducible exact tamisref23_Check.mono _ _)
      | (with_reducible exact tamisref23_Emit.mono _ _)
      | (with_reducible exact tamisref23_Long.mono _ _)
      | (with_reducible exact LeO.refl _)
      | (with_reducible exact LeO.none _)
      | (with_reducible refine LeO.ite ?_ ?_)
      | (with_reducible refine LeO.bind ?_ (fun _ => ?_))
      | exact ih0 _ _
      | exact ih1 _ _ _ _ _ _ _ _
      | exact ih2 _ _ _ _ _ _
      | exact ih3 _ _ _ _ _ _ _
      | exact emit_Emit.mono _ _
      | exact emit_Long.mono _ _
      | exact emit_Size.mono _ _
      | exact tamislaw23_Own.mono _ _
      | exact tamisref02_Same.mono _ _ _
      | exact tamisref23_Check.mono _ _
      | exact tamisref23_Emit.mono _ _
      | exact tamisref23_Long.mono _ _
      | exact LeO.none _
      | refine LeO.ite ?_ ?_
      | refine LeO.bind ?_ (fun _ => ?_)
    · intro y0 y1 y2 y3 y4 y5 y6
      unfold tamislaw23_EmitTells.l0
      repeat' first
      | (with_reducible exact ih0 _ _)
      | (with_reducible exact ih1 _ _ _ _ _ _ _ _)
      | (with_reducible exact ih2 _ _ _ _ _ _)
      | (with_reducible exact ih3 _ _ _ _ _ _ _)
      | (with_reducible exact emit_Emit.mono _ _)
      | (with_reducible exact emit_Long.mono _ _)
      | (with_reducible exact emit_Size.mono _ _)
      | (with_reducible exact tamislaw23_Own.mono _ _)
      | (with_reducible exact tamisref02_Same.mono _ _ _)
      | (with_reducible exact tamisref23_Check.mono _ _)
      | (with_reducible exact tamisref23_Emit.mono _ _)
      | (with_reducible exact tamisref23_Long.mono _ _)
      | (with_reducible exact LeO.refl _)
      | (with_reducible exact LeO.none _)
      | (with_reducible refine LeO.ite ?_ ?_)
      | (with_reducible refine LeO.bind ?_ (fun _ => ?_))
      | exact ih0 _ _
      | exact ih1 _ _ _ _ _ _ _ _
      | exact ih2 _ _ _ _ _ _
      | exact ih3 _ _ _ _ _ _ _
      | exact emit_Emit.mono _ _
      | exact emit_Long.mono _ _
      | exact emit_Size.mono _ _
      | exact tamislaw23_Own.mono _ _
      | exact tamisref02_Same.mono _ _ _
      | exact tamisref23_Check.mono _ _
      | exact tamisref23_Emit.mono _ _
      | exact tamisref23_Long.mono _ _
      | exact LeO.none _
      | refine LeO.ite ?_ ?_
      | refine LeO.bind ?_ (fun _ => ?_)
theorem tamislaw23_EmitTells.mono : ∀ a0 k, LeO (tamislaw23_EmitTells.f k a0) (tamislaw23_EmitTells.f (k + 1) a0) := by
  intro a0 k
  obtain ⟨ih0, ih1, ih2, ih3⟩ := tamislaw23_EmitTells.mono_l k
  unfold tamislaw23_EmitTells.f
  repeat' first
      | (with_reducible exact ih0 _ _)
      | (with_reducible exact ih1 _ _ _ _ _ _ _ _)
      | (with_reducible exact ih2 _ _ _ _ _ _)
      | (with_reducible exact ih3 _ _ _ _ _ _ _)
      | (with_reducible exact emit_Emit.mono _ _)
      | (with_reducible exact emit_Long.mono _ _)
      | (with_reducible exact emit_Size.mono _ _)
      | (with_reducible exact tamislaw23_Own.mono _ _)
      | (with_reducible exact tamisref02_Same.mono _ _ _)
      | (with_reducible exact tamisref23_Check.mono _ _)
      | (with_reducible exact tamisref23_Emit.mono _ _)
      | (with_reducible exact tamisref23_Long.mono _ _)
      | (with_reducible exact LeO.refl _)
      | (with_reducible exact LeO.none _)
      | (with_reducible refine LeO.ite ?_ ?_)
      | (with_reducible refine LeO.bind ?_ (fun _ => ?_))
      | exact ih0 _ _
      | exact ih1 _ _ _ _ _ _ _ _
      | exact ih2 _ _ _ _ _ _
      | exact ih3 _ _ _ _ _ _ _
      | exact emit_Emit.mono _ _
      | exact emit_Long.mono _ _
      | exact emit_Size.mono _ _
      | exact tamislaw23_Own.mono _ _
      | exact tamisref02_Same.mono _ _ _
      | exact tamisref23_Check.mono _ _
      | exact tamisref23_Emit.mono _ _
      | exact tamisref23_Long.mono _ _
      | exact LeO.none _
      | refine LeO.ite ?_ ?_
      | refine LeO.bind ?_ (fun _ => ?_)
set_option maxHeartbeats 8000000 in
set_option maxRecDepth 100000 in
theorem tamislaw23_EmitTells.calls (k : Nat) (A0 : Option Addr) (c0 : Nat) (l0 : List (S40)) (r : Bool) (w : World) (hr0 : Kd.C k40 w A0 l0.length l0) (hc0 : l0.length ≤ c0) (h : tamislaw23_EmitTells.f k l0 = some r) :
    Calls Try.prog 12 #[.slice A0 l0.length c0] w fun e w' => e = .returned (.bool r) ∧ Below w.heap.size w w' := by
  have HR0 := Aside0.mk hr0
  have HC0 := Aside0.mk hc0
  clear hr0 hc0
  have HB := Aside0.mk (Below.refl w.heap.size w)
  have H : ((tamislaw23_awake.f).bind fun t200 => (if t200 = true then (tamislaw23_EmitTells.j0 k l0 (decide ((l0.length : Int) > 700))) else (tamislaw23_EmitTells.j0 k l0 true))) = some r := h
  clear h
  have HC2 := Aside0.mk H
  clear H
  go_enter Try.func12, Try.ntmps12
  go_upto_region 1 with (fail)
  repeat (go_quiet (fail); go_upto_region 1 with (fail))
  go_cut [23] (fun v23 wc => ∃ (kq : Nat) (x23_1 : Bool), v23 = .bool x23_1 ∧ Aside0 (tamislaw23_EmitTells.j0 kq l0 x23_1 = some r) ∧ Aside0 (kq ≤ k) ∧ Aside0 (Below w.heap.size w wc))
  case first =>
    have H := HC2.out
    clear HC2
    replace H := Option.bind_eq_some_iff.mp H
    obtain ⟨t200, A30, H⟩ := H
    replace H : (if t200 = true then (tamislaw23_EmitTells.j0 k l0 (decide ((l0.length : Int) > 700))) else (tamislaw23_EmitTells.j0 k l0 true)) = some r := H
    have A3 := Aside0.mk A30
    clear A30
    by_cases c4 : t200 = true
    · subst c4
      have H1 : (tamislaw23_EmitTells.j0 k l0 (decide ((l0.length : Int) > 700))) = some r := by rw [if_pos rfl] at H; exact H
      clear H
      have H := H1
      clear H1
      have H' := Aside0.mk H
      clear H
      go_wp2_with (first | (go_at_call 49; (with_reducible refine (tamislaw23_awake.calls  true _ A3.out).mono ?_); rintro e w5 ⟨rfl, hb⟩; have n0_ := Aside0.mk (below_step (by repeat (first | (with_reducible first | exact HB.out | apply below_alloc | apply pw_below_drewN | apply below_drew1) | exact HB.out)) hb); clear HB; have HB := n0_; clear n0_; (try clear hb); (try clear hb2); (try clear hk); (try clear hi)))
      repeat (go_quiet (first | (go_at_call 49; (with_reducible refine (tamislaw23_awake.calls  true _ A3.out).mono ?_); rintro e w5 ⟨rfl, hb⟩; have n0_ := Aside0.mk (below_step (by repeat (first | (with_reducible first | exact HB.out | apply below_alloc | apply pw_below_drewN | apply below_drew1) | exact HB.out)) hb); clear HB; have HB := n0_; clear n0_; (try clear hb); (try clear hb2); (try clear hk); (try clear hi))); try go_wp2_with (first | (go_at_call 49; (with_reducible refine (tamislaw23_awake.calls  true _ A3.out).mono ?_); rintro e w5 ⟨rfl, hb⟩; have n0_ := Aside0.mk (below_step (by repeat (first | (with_reducible first | exact HB.out | apply below_alloc | apply pw_below_drewN | apply below_drew1) | exact HB.out)) hb); clear HB; have HB := n0_; clear n0_; (try clear hb); (try clear hb2); (try clear hk); (try clear hi))))
      go_meet
      case rel => exact ⟨_, (decide ((l0.length : Int) > 700)), (by first | rfl | (simp; done) | (simp [*]; done)), H', ⟨by first | omega | exact Nat.le_refl _⟩, ⟨by repeat (first | (with_reducible first | exact HB.out | apply below_alloc | apply pw_below_drewN | apply below_drew1) | exact HB.out)⟩⟩
    · replace c4 := Bool.eq_false_iff.mpr c4
      subst c4
      have H1 : (tamislaw23_EmitTells.j0 k l0 true) = some r := by rw [if_neg (show ¬ (false = true) by decide)] at H; exact H
      clear H
      have H := H1
      clear H1
      have H' := Aside0.mk H
      clear H
      go_wp2_with (first | (go_at_call 49; (with_reducible refine (tamislaw23_awake.calls  false _ A3.out).mono ?_); rintro e w6 ⟨rfl, hb⟩; have n0_ := Aside0.mk (below_step (by repeat (first | (with_reducible first | exact HB.out | apply below_alloc | apply pw_below_drewN | apply below_drew1) | exact HB.out)) hb); clear HB; have HB := n0_; clear n0_; (try clear hb); (try clear hb2); (try clear hk); (try clear hi)))
      repeat (go_quiet (first | (go_at_call 49; (with_reducible refine (tamislaw23_awake.calls  false _ A3.out).mono ?_); rintro e w6 ⟨rfl, hb⟩; have n0_ := Aside0.mk (below_step (by repeat (first | (with_reducible first | exact HB.out | apply below_alloc | apply pw_below_drewN | apply below_drew1) | exact HB.out)) hb); clear HB; have HB := n0_; clear n0_; (try clear hb); (try clear hb2); (try clear hk); (try clear hi))); try go_wp2_with (first | (go_at_call 49; (with_reducible refine (tamislaw23_awake.calls  false _ A3.out).mono ?_); rintro e w6 ⟨rfl, hb⟩; have n0_ := Aside0.mk (below_step (by repeat (first | (with_reducible first | exact HB.out | apply below_alloc | apply pw_below_drewN | apply below_drew1) | exact HB.out)) hb); clear HB; have HB := n0_; clear n0_; (try clear hb); (try clear hb2); (try clear hk); (try clear hi))))
      go_meet
      case rel => exact ⟨_, (true), (by first | rfl | (simp; done) | (simp [*]; done)), H', ⟨by first | omega | exact Nat.le_refl _⟩, ⟨by repeat (first | (with_reducible first | exact HB.out | apply below_alloc | apply pw_below_drewN | apply below_drew1) | exact HB.out)⟩⟩
  case rest =>
    clear HC2
    try clear c1
    try clear p2
    try clear c4
    obtain ⟨kq, x23_1, rfl, HA, HJ1, HB⟩ := hcut
    cases kq with
    | zero => exact absurd HA.out (by simp [tamislaw23_EmitTells.j0])
    | succ kj1 =>
      have H := HA.out
      clear HA
      simp only [tamislaw23_EmitTells.j0] at H
      by_cases c7 : x23_1 = true
      · subst c7
        have H1 : ((tamislaw23_awake.f).bind fun t201 => (some t201)) = some r := by rw [if_pos rfl] at H; exact H
        clear H
        have H := H1
        clear H1
        replace H := Option.bind_eq_some_iff.mp H
        obtain ⟨t201, A80, H⟩ := H
        replace H : (some t201) = some r := H
        have A8 := Aside0.mk A80
        clear A80
        obtain rfl := Option.some.inj H
        go_wp2_with (first | (go_at_call 49; (with_reducible refine (tamislaw23_awake.calls  t201 _ A8.out).mono ?_); rintro e w9 ⟨rfl, hb⟩; have n0_ := Aside0.mk (below_step (by repeat (first | (with_reducible first | exact HB.out | apply below_alloc | apply pw_below_drewN | apply below_drew1) | exact HB.out)) hb); clear HB; have HB := n0_; clear n0_; (try clear hb); (try clear hb2); (try clear hk); (try clear hi)))
        repeat (go_quiet (first | (go_at_call 49; (with_reducible refine (tamislaw23_awake.calls  t201 _ A8.out).mono ?_); rintro e w9 ⟨rfl, hb⟩; have n0_ := Aside0.mk (below_step (by repeat (first | (with_reducible first | exact HB.out | apply below_alloc | apply pw_below_drewN | apply below_drew1) | exact HB.out)) hb); clear HB; have HB := n0_; clear n0_; (try clear hb); (try clear hb2); (try clear hk); (try clear hi))); try go_wp2_with (first | (go_at_call 49; (with_reducible refine (tamislaw23_awake.calls  t201 _ A8.out).mono ?_); rintro e w9 ⟨rfl, hb⟩; have n0_ := Aside0.mk (below_step (by repeat (first | (with_reducible first | exact HB.out | apply below_alloc | apply pw_below_drewN | apply below_drew1) | exact HB.out)) hb); clear HB; have HB := n0_; clear n0_; (try clear hb); (try clear hb2); (try clear hk); (try clear hi))))
        go_ret
        exact ⟨by first | rfl | (simp [errW_none, errW_some] <;> rfl) | (simp [*, errW_none, errW_some] <;> rfl), by repeat (first | (with_reducible first | exact HB.out | apply below_alloc | apply pw_below_drewN | apply below_drew1) | exact HB.out)⟩
      · replace c7 := Bool.eq_false_iff.mpr c7
        subst c7
        have H1 : ((tamislaw23_Own.f kj1 l0).bind fun t202 => ((some (([] : List (S40)) : List (S40))).bind fun y205 => (if y205.length + l0.length < 4398046511104 then ((emit_Check.f (y205 ++ l0)).bind fun bt211 => ((tamisref23_Check.f kj1 t202).bind fun bt213 => ((some (([] : List (S40)) : List (S40))).bind fun y215 => (if y215.length + l0.length < 4398046511104 then ((emit_Emit.f kj1 (y215 ++ l0)).bind fun bt221 => ((emit_Size.f kj1 l0).bind fun bt225 => ((emit_Long.f kj1 l0).bind fun bt227 => (if bt211.1 = bt213.1 then (if bt211.2 = bt213.2 then (if bt225.2 = bt211.2 then (tamislaw23_EmitTells.j1 kj1 t202 bt211.2 bt213.2 bt221.1 bt221.2 bt225.1 bt227.1 (bt227.2 != bt211.2)) else (tamislaw23_EmitTells.j1 kj1 t202 bt211.2 bt213.2 bt221.1 bt221.2 bt225.1 bt227.1 true)) else (tamislaw23_EmitTells.j1 kj1 t202 bt211.2 bt213.2 bt221.1 bt221.2 bt225.1 bt227.1 true)) else (tamislaw23_EmitTells.j1 kj1 t202 bt211.2 bt213.2 bt221.1 bt221.2 bt225.1 bt227.1 true))))) else (none))))) else (none)))) = some r := by rw [if_neg (show ¬ (false = true) by decide)] at H; exact H
        clear H
        have H := H1
        clear H1
        replace H := Option.bind_eq_some_iff.mp H
        obtain ⟨t202, A100, H⟩ := H
        replace H : ((some (([] : List (S40)) : List (S40))).bind fun y205 => (if y205.length + l0.length < 4398046511104 then ((emit_Check.f (y205 ++ l0)).bind fun bt211 => ((tamisref23_Check.f kj1 t202).bind fun bt213 => ((some (([] : List (S40)) : List (S40))).bind fun y215 => (if y215.length + l0.length < 4398046511104 then ((emit_Emit.f kj1 (y215 ++ l0)).bind fun bt221 => ((emit_Size.f kj1 l0).bind fun bt225 => ((emit_Long.f kj1 l0).bind fun bt227 => (if bt211.1 = bt213.1 then (if bt211.2 = bt213.2 then (if bt225.2 = bt211.2 then (tamislaw23_EmitTells.j1 kj1 t202 bt211.2 bt213.2 bt221.1 bt221.2 bt225.1 bt227.1 (bt227.2 != bt211.2)) else (tamislaw23_EmitTells.j1 kj1 t202 bt211.2 bt213.2 bt221.1 bt221.2 bt225.1 bt227.1 true)) else (tamislaw23_EmitTells.j1 kj1 t202 bt211.2 bt213.2 bt221.1 bt221.2 bt225.1 bt227.1 true)) else (tamislaw23_EmitTells.j1 kj1 t202 bt211.2 bt213.2 bt221.1 bt221.2 bt225.1 bt227.1 true))))) else (none))))) else (none))) = some r := H
        have A10 := Aside0.mk A100
        clear A100
        obtain ⟨y205, hy205⟩ : ∃ y_ : List (S40), y_ = (([] : List (S40))) := ⟨_, rfl⟩
        replace H : (if y205.length + l0.length < 4398046511104 then ((emit_Check.f (y205 ++ l0)).bind fun bt211 => ((tamisref23_Check.f kj1 t202).bind fun bt213 => ((some (([] : List (S40)) : List (S40))).bind fun y215 => (if y215.length + l0.length < 4398046511104 then ((emit_Emit.f kj1 (y215 ++ l0)).bind fun bt221 => ((emit_Size.f kj1 l0).bind fun bt225 => ((emit_Long.f kj1 l0).bind fun bt227 => (if bt211.1 = bt213.1 then (if bt211.2 = bt213.2 then (if bt225.2 = bt211.2 then (tamislaw23_EmitTells.j1 kj1 t202 bt211.2 bt213.2 bt221.1 bt221.2 bt225.1 bt227.1 (bt227.2 != bt211.2)) else (tamislaw23_EmitTells.j1 kj1 t202 bt211.2 bt213.2 bt221.1 bt221.2 bt225.1 bt227.1 true)) else (tamislaw23_EmitTells.j1 kj1 t202 bt211.2 bt213.2 bt221.1 bt221.2 bt225.1 bt227.1 true)) else (tamislaw23_EmitTells.j1 kj1 t202 bt211.2 bt213.2 bt221.1 bt221.2 bt225.1 bt227.1 true))))) else (none))))) else (none)) = some r := by first | (rw [hy205]; with_reducible exact H) | (have H2_ := (Option.bind_some _ _).symm.trans H; rw [hy205]; with_reducible exact H2_) | (have H2_ := (Option.bind_some _ _).symm.trans H; with_reducible exact H2_) | with_reducible exact H | (rw [hy205]; exact H) | exact H
        have Ny205 := Aside0.mk hy205
        clear hy205
        by_cases c11 : y205.length + l0.length < 4398046511104
        · rw [if_pos c11] at H
          have LMc11 := Aside0.mk c11
          clear c11
          obtain ⟨y208, hy208⟩ : ∃ y_ : List (S40), y_ = (y205 ++ l0) := ⟨_, rfl⟩
          replace H : ((emit_Check.f y208).bind fun bt211 => ((tamisref23_Check.f kj1 t202).bind fun bt213 => ((some (([] : List (S40)) : List (S40))).bind fun y215 => (if y215.length + l0.length < 4398046511104 then ((emit_Emit.f kj1 (y215 ++ l0)).bind fun bt221 => ((emit_Size.f kj1 l0).bind fun bt225 => ((emit_Long.f kj1 l0).bind fun bt227 => (if bt211.1 = bt213.1 then (if bt211.2 = bt213.2 then (if bt225.2 = bt211.2 then (tamislaw23_EmitTells.j1 kj1 t202 bt211.2 bt213.2 bt221.1 bt221.2 bt225.1 bt227.1 (bt227.2 != bt211.2)) else (tamislaw23_EmitTells.j1 kj1 t202 bt211.2 bt213.2 bt221.1 bt221.2 bt225.1 bt227.1 true)) else (tamislaw23_EmitTells.j1 kj1 t202 bt211.2 bt213.2 bt221.1 bt221.2 bt225.1 bt227.1 true)) else (tamislaw23_EmitTells.j1 kj1 t202 bt211.2 bt213.2 bt221.1 bt221.2 bt225.1 bt227.1 true))))) else (none))))) = some r := by first | (rw [hy208]; with_reducible exact H) | (have H2_ := (Option.bind_some _ _).symm.trans H; rw [hy208]; with_reducible exact H2_) | (have H2_ := (Option.bind_some _ _).symm.trans H; with_reducible exact H2_) | with_reducible exact H | (rw [hy208]; exact H) | exact H
          have Ny208 := Aside0.mk hy208
          clear hy208
          replace H := Option.bind_eq_some_iff.mp H
          obtain ⟨⟨t211, t212⟩, A120, H⟩ := H
          replace H : ((tamisref23_Check.f kj1 t202).bind fun bt213 => ((some (([] : List (S40)) : List (S40))).bind fun y215 => (if y215.length + l0.length < 4398046511104 then ((emit_Emit.f kj1 (y215 ++ l0)).bind fun bt221 => ((emit_Size.f kj1 l0).bind fun bt225 => ((emit_Long.f kj1 l0).bind fun bt227 => (if t211 = bt213.1 then (if t212 = bt213.2 then (if bt225.2 = t212 then (tamislaw23_EmitTells.j1 kj1 t202 t212 bt213.2 bt221.1 bt221.2 bt225.1 bt227.1 (bt227.2 != t212)) else (tamislaw23_EmitTells.j1 kj1 t202 t212 bt213.2 bt221.1 bt221.2 bt225.1 bt227.1 true)) else (tamislaw23_EmitTells.j1 kj1 t202 t212 bt213.2 bt221.1 bt221.2 bt225.1 bt227.1 true)) else (tamislaw23_EmitTells.j1 kj1 t202 t212 bt213.2 bt221.1 bt221.2 bt225.1 bt227.1 true))))) else (none)))) = some r := H
          have A12 := Aside0.mk A120
          clear A120
          replace H := Option.bind_eq_some_iff.mp H
          obtain ⟨⟨t213, t214⟩, A130, H⟩ := H
          replace H : ((some (([] : List (S40)) : List (S40))).bind fun y215 => (if y215.length + l0.length < 4398046511104 then ((emit_Emit.f kj1 (y215 ++ l0)).bind fun bt221 => ((emit_Size.f kj1 l0).bind fun bt225 => ((emit_Long.f kj1 l0).bind fun bt227 => (if t211 = t213 then (if t212 = t214 then (if bt225.2 = t212 then (tamislaw23_EmitTells.j1 kj1 t202 t212 t214 bt221.1 bt221.2 bt225.1 bt227.1 (bt227.2 != t212)) else (tamislaw23_EmitTells.j1 kj1 t202 t212 t214 bt221.1 bt221.2 bt225.1 bt227.1 true)) else (tamislaw23_EmitTells.j1 kj1 t202 t212 t214 bt221.1 bt221.2 bt225.1 bt227.1 true)) else (tamislaw23_EmitTells.j1 kj1 t202 t212 t214 bt221.1 bt221.2 bt225.1 bt227.1 true))))) else (none))) = some r := H
          have A13 := Aside0.mk A130
          clear A130
          obtain ⟨y215, hy215⟩ : ∃ y_ : List (S40), y_ = (([] : List (S40))) := ⟨_, rfl⟩
          replace H : (if y215.length + l0.length < 4398046511104 then ((emit_Emit.f kj1 (y215 ++ l0)).bind fun bt221 => ((emit_Size.f kj1 l0).bind fun bt225 => ((emit_Long.f kj1 l0).bind fun bt227 => (if t211 = t213 then (if t212 = t214 then (if bt225.2 = t212 then (tamislaw23_EmitTells.j1 kj1 t202 t212 t214 bt221.1 bt221.2 bt225.1 bt227.1 (bt227.2 != t212)) else (tamislaw23_EmitTells.j1 kj1 t202 t212 t214 bt221.1 bt221.2 bt225.1 bt227.1 true)) else (tamislaw23_EmitTells.j1 kj1 t202 t212 t214 bt221.1 bt221.2 bt225.1 bt227.1 true)) else (tamislaw23_EmitTells.j1 kj1 t202 t212 t214 bt221.1 bt221.2 bt225.1 bt227.1 true))))) else (none)) = some r := by first | (rw [hy215]; with_reducible exact H) | (have H2_ := (Option.bind_some _ _).symm.trans H; rw [hy215]; with_reducible exact H2_) | (have H2_ := (Option.bind_some _ _).symm.trans H; with_reducible exact H2_) | with_reducible exact H | (rw [hy215]; exact H) | exact H
          have Ny215 := Aside0.mk hy215
          clear hy215
          by_cases c14 : y215.length + l0.length < 4398046511104
          · rw [if_pos c14] at H
            have LMc14 := Aside0.mk c14
            clear c14
            obtain ⟨y218, hy218⟩ : ∃ y_ : List (S40), y_ = (y215 ++ l0) := ⟨_, rfl⟩
            replace H : ((emit_Emit.f kj1 y218).bind fun bt221 => ((emit_Size.f kj1 l0).bind fun bt225 => ((emit_Long.f kj1 l0).bind fun bt227 => (if t211 = t213 then (if t212 = t214 then (if bt225.2 = t212 then (tamislaw23_EmitTells.j1 kj1 t202 t212 t214 bt221.1 bt221.2 bt225.1 bt227.1 (bt227.2 != t212)) else (tamislaw23_EmitTells.j1 kj1 t202 t212 t214 bt221.1 bt221.2 bt225.1 bt227.1 true)) else (tamislaw23_EmitTells.j1 kj1 t202 t212 t214 bt221.1 bt221.2 bt225.1 bt227.1 true)) else (tamislaw23_EmitTells.j1 kj1 t202 t212 t214 bt221.1 bt221.2 bt225.1 bt227.1 true))))) = some r := by first | (rw [hy218]; with_reducible exact H) | (have H2_ := (Option.bind_some _ _).symm.trans H; rw [hy218]; with_reducible exact H2_) | (have H2_ := (Option.bind_some _ _).symm.trans H; with_reducible exact H2_) | with_reducible exact H | (rw [hy218]; exact H) | exact H
            have Ny218 := Aside0.mk hy218
            clear hy218
            replace H := Option.bind_eq_some_iff.mp H
            obtain ⟨⟨t221, t222⟩, A150, H⟩ := H
            replace H : ((emit_Size.f kj1 l0).bind fun bt225 => ((emit_Long.f kj1 l0).bind fun bt227 => (if t211 = t213 then (if t212 = t214 then (if bt225.2 = t212 then (tamislaw23_EmitTells.j1 kj1 t202 t212 t214 t221 t222 bt225.1 bt227.1 (bt227.2 != t212)) else (tamislaw23_EmitTells.j1 kj1 t202 t212 t214 t221 t222 bt225.1 bt227.1 true)) else (tamislaw23_EmitTells.j1 kj1 t202 t212 t214 t221 t222 bt225.1 bt227.1 true)) else (tamislaw23_EmitTells.j1 kj1 t202 t212 t214 t221 t222 bt225.1 bt227.1 true)))) = some r := H
            have A15 := Aside0.mk A150
            clear A150
            replace H := Option.bind_eq_some_iff.mp H
            obtain ⟨⟨t225, t226⟩, A160, H⟩ := H
            replace H : ((emit_Long.f kj1 l0).bind fun bt227 => (if t211 = t213 then (if t212 = t214 then (if t226 = t212 then (tamislaw23_EmitTells.j1 kj1 t202 t212 t214 t221 t222 t225 bt227.1 (bt227.2 != t212)) else (tamislaw23_EmitTells.j1 kj1 t202 t212 t214 t221 t222 t225 bt227.1 true)) else (tamislaw23_EmitTells.j1 kj1 t202 t212 t214 t221 t222 t225 bt227.1 true)) else (tamislaw23_EmitTells.j1 kj1 t202 t212 t214 t221 t222 t225 bt227.1 true))) = some r := H
            have A16 := Aside0.mk A160
            clear A160
            replace H := Option.bind_eq_some_iff.mp H
            obtain ⟨⟨t227, t228⟩, A170, H⟩ := H
            replace H : (if t211 = t213 then (if t212 = t214 then (if t226 = t212 then (tamislaw23_EmitTells.j1 kj1 t202 t212 t214 t221 t222 t225 t227 (t228 != t212)) else (tamislaw23_EmitTells.j1 kj1 t202 t212 t214 t221 t222 t225 t227 true)) else (tamislaw23_EmitTells.j1 kj1 t202 t212 t214 t221 t222 t225 t227 true)) else (tamislaw23_EmitTells.j1 kj1 t202 t212 t214 t221 t222 t225 t227 true)) = some r := H
            have A17 := Aside0.mk A170
            clear A170
            have HC18 := Aside0.mk H
            clear H
            go_upto_region 9 with (first | (go_at_call 33; (with_reducible refine (tamislaw23_Own.calls kj1 _ _ l0 t202 _ ?side1 ?side2 A10.out).mono ?_); (case side1 => repeat (first | exact (Kd.C_below HR0.out HB.out) | (with_reducible refine Kd.C_alloc ?_ _) | (with_reducible refine Kd.C_drewN ?_ _) | (with_reducible refine Kd.C_drew ?_))); (case side2 => exact HC0.out); rintro e w19 ⟨v203, rfl, ho0, hb⟩; have n0_ := Aside0.mk (Kd.R_lower ho0 (below_size (by repeat (first | (with_reducible first | exact HB.out | apply below_alloc | apply pw_below_drewN | apply below_drew1) | exact HB.out)))); have n1_ := Aside0.mk (below_step (by repeat (first | (with_reducible first | exact HB.out | apply below_alloc | apply pw_below_drewN | apply below_drew1) | exact HB.out)) hb); clear HB; have HO204 := n0_; have HB := n1_; clear n0_ n1_; (try clear hb); (try clear hb2); (try clear hk); (try clear hi); (try clear ho0)) | ((with_reducible refine gate_dst (N := 28) rfl ?_); refine Kd.R_lit k40 _ 40 ?hg (N := 28) ?hd (xs := ([] : List (S40))) (inner := []) (ok := fun _ => True) (okp := fun _ => True) ?hr ?hp (fun _ hk => hk) trivial (Below.refl _ _) (Nat.le_refl _) (by simp) ?_; (case hd => rfl); (case hg => rfl); (case hr => first | (go_simp; done) | (go_simp; rfl)); (case hp => exact (Reps.none _ _)); intro v206 w20 ho21 hb hg_ hnew_; clear hg_ hnew_; (first | rw [← Ny205.out] at ho21 | (simp only [Int.reduceToNat] at ho21; rw [← Ny205.out] at ho21)); have n0_ := Aside0.mk (Kd.R_below (by (with_reducible repeat (first | apply Kd.R_alloc | apply Kd.R_drewN | apply Kd.R_drew)); exact HO204.out) hb); have n1_ := Aside0.mk (Kd.R_lower ho21 (below_size (by repeat (first | (with_reducible first | exact HB.out | apply below_alloc | apply pw_below_drewN | apply below_drew1) | exact HB.out)))); have n2_ := Aside0.mk (below_step (by repeat (first | (with_reducible first | exact HB.out | apply below_alloc | apply pw_below_drewN | apply below_drew1) | exact HB.out)) hb); clear HO204; clear HB; have HO204 := n0_; have HO207 := n1_; have HB := n2_; clear n0_ n1_ n2_; clear hb ho21) | ((with_reducible refine gate_builtin (b := .append) (xs := #[.tmp 28, .tmp 29]) rfl ?_); at_builtin; refine Kd.R_append_rows k40 (w0 := w) w.heap.size rfl (.tmp 28) (.tmp 29) 24 40 (.agg #[(.int .i64 0), (.int .u16 0), (.int .u32 0), (.int .i64 0), (.int .i64 0)]) 32 rfl Try.underlying24 info40 rfl (by decide) (by omega) v206 y205 l0 _ _ _ (fun _ => True) (fun _ => False) rfl rfl ?aO ?aR (fun _ _ h => h) (fun _ h => h.elim) ?aF ?aB ?aS ?aL ?_; (case aR => repeat (first | exact (Kd.C_below HR0.out HB.out) | (with_reducible refine Kd.C_alloc ?_ _) | (with_reducible refine Kd.C_drewN ?_ _) | (with_reducible refine Kd.C_drew ?_))); (case aB => exact (by repeat (first | (with_reducible first | exact HB.out | apply below_alloc | apply pw_below_drewN | apply below_drew1) | exact HB.out))); (case aF => exact (fun _ _ => trivial)); (case aO => exact (by (with_reducible repeat (first | apply Kd.R_alloc | apply Kd.R_drewN | apply Kd.R_drew)); exact HO207.out)); (case aS => exact (below_size (by repeat (first | (with_reducible first | exact HB.out | apply below_alloc | apply pw_below_drewN | apply below_drew1) | exact HB.out)))); (case aL => have := LMc11.out; omega); intro v209 w22 ho hb hg hat; rw [← Ny208.out] at ho; have n0_ := Aside0.mk (Kd.R_over' (by (with_reducible repeat (first | apply Kd.R_alloc | apply Kd.R_drewN | apply Kd.R_drew)); exact HO204.out) (Kd.R_typed (by (with_reducible repeat (first | apply Kd.R_alloc | apply Kd.R_drewN | apply Kd.R_drew)); exact HO207.out)) (by decide) hg); have n1_ := Aside0.mk (hb); have n2_ := Aside0.mk (ho); clear HO204; clear HB; clear HO207; have HO204 := n0_; have HB := n1_; have HO210 := n2_; clear n0_ n1_ n2_; clear ho hb hg hat; obtain ⟨Ao23, co23, eo23⟩ := Kd.R_slice HO210.out; subst eo23) | (go_at_call 50; (with_reducible refine (emit_Check.calls _ _ y208 t211 t212 _ ?side1 ?side2 A12.out).mono ?_); (case side1 => repeat (first | exact (Kd.R_reads' HO210.out).2.2 | (with_reducible refine Kd.C_alloc ?_ _) | (with_reducible refine Kd.C_drewN ?_ _) | (with_reducible refine Kd.C_drew ?_))); (case side2 => exact (Kd.R_reads' HO210.out).2.1); rintro e w24 ⟨rfl, hb⟩; have n0_ := Aside0.mk (Kd.R_below (by (with_reducible repeat (first | apply Kd.R_alloc | apply Kd.R_drewN | apply Kd.R_drew)); exact HO204.out) hb); have n1_ := Aside0.mk (Kd.R_below (by (with_reducible repeat (first | apply Kd.R_alloc | apply Kd.R_drewN | apply Kd.R_drew)); exact HO210.out) hb); have n2_ := Aside0.mk (below_step (by repeat (first | (with_reducible first | exact HB.out | apply below_alloc | apply pw_below_drewN | apply below_drew1) | exact HB.out)) hb); clear HO204; clear HO210; clear HB; have HO204 := n0_; have HO210 := n1_; have HB := n2_; clear n0_ n1_ n2_; (try clear hb); (try clear hb2); (try clear hk); (try clear hi); obtain ⟨Ao25, co25, eo25⟩ := Kd.R_slice HO204.out; subst eo25) | (go_at_call 36; (with_reducible refine (tamisref23_Check.calls kj1 _ _ t202 t213 t214 _ ?side1 ?side2 A13.out).mono ?_); (case side1 => repeat (first | exact (Kd.R_reads' HO204.out).2.2 | (with_reducible refine Kd.C_alloc ?_ _) | (with_reducible refine Kd.C_drewN ?_ _) | (with_reducible refine Kd.C_drew ?_))); (case side2 => exact (Kd.R_reads' HO204.out).2.1); rintro e w26 ⟨rfl, hb⟩; have n0_ := Aside0.mk (Kd.R_below (by (with_reducible repeat (first | apply Kd.R_alloc | apply Kd.R_drewN | apply Kd.R_drew)); exact HO204.out) hb); have n1_ := Aside0.mk (Kd.R_below (by (with_reducible repeat (first | apply Kd.R_alloc | apply Kd.R_drewN | apply Kd.R_drew)); exact HO210.out) hb); have n2_ := Aside0.mk (below_step (by repeat (first | (with_reducible first | exact HB.out | apply below_alloc | apply pw_below_drewN | apply below_drew1) | exact HB.out)) hb); clear HO204; clear HO210; clear HB; have HO204 := n0_; have HO210 := n1_; have HB := n2_; clear n0_ n1_ n2_; (try clear hb); (try clear hb2); (try clear hk); (try clear hi)) | ((with_reducible refine gate_dst (N := 40) rfl ?_); refine Kd.R_lit k40 _ 40 ?hg (N := 40) ?hd (xs := ([] : List (S40))) (inner := []) (ok := fun _ => True) (okp := fun _ => True) ?hr ?hp (fun _ hk => hk) trivial (Below.refl _ _) (Nat.le_refl _) (by simp) ?_; (case hd => rfl); (case hg => rfl); (case hr => first | (go_simp; done) | (go_simp; rfl)); (case hp => exact (Reps.none _ _)); intro v216 w27 ho28 hb hg_ hnew_; clear hg_ hnew_; (first | rw [← Ny215.out] at ho28 | (simp only [Int.reduceToNat] at ho28; rw [← Ny215.out] at ho28)); have n0_ := Aside0.mk (Kd.R_below (by (with_reducible repeat (first | apply Kd.R_alloc | apply Kd.R_drewN | apply Kd.R_drew)); exact HO204.out) hb); have n1_ := Aside0.mk (Kd.R_elder' (by (with_reducible repeat (first | apply Kd.R_alloc | apply Kd.R_drewN | apply Kd.R_drew)); exact HO210.out) (Kd.R_base ho28) hb); have n2_ := Aside0.mk (Kd.R_lower (Kd.R_new' ho28 (Kd.R_lt (by (with_reducible repeat (first | apply Kd.R_alloc | apply Kd.R_drewN | apply Kd.R_drew)); exact HO210.out))) (below_size (by repeat (first | (with_reducible first | exact HB.out | apply below_alloc | apply pw_below_drewN | apply below_drew1) | exact HB.out)))); have n3_ := Aside0.mk (below_step (by repeat (first | (with_reducible first | exact HB.out | apply below_alloc | apply pw_below_drewN | apply below_drew1) | exact HB.out)) hb); clear HO204; clear HO210; clear HB; have HO204 := n0_; have HO210 := n1_; have HO217 := n2_; have HB := n3_; clear n0_ n1_ n2_ n3_; clear hb ho28) | ((with_reducible refine gate_builtin (b := .append) (xs := #[.tmp 40, .tmp 41]) rfl ?_); at_builtin; refine Kd.R_append_rows k40 (w0 := w) w.heap.size rfl (.tmp 40) (.tmp 41) 24 40 (.agg #[(.int .i64 0), (.int .u16 0), (.int .u32 0), (.int .i64 0), (.int .i64 0)]) 32 rfl Try.underlying24 info40 rfl (by decide) (by omega) v216 y215 l0 _ _ _ (fun k_ => some k_ ≠ (.slice Ao23 y208.length co23 : Value).ownBlock) (fun _ => False) rfl rfl ?aO ?aR (fun _ _ h => h) (fun _ h => h.elim) ?aF ?aB ?aS ?aL ?_; (case aR => repeat (first | exact (Kd.C_below HR0.out HB.out) | (with_reducible refine Kd.C_alloc ?_ _) | (with_reducible refine Kd.C_drewN ?_ _) | (with_reducible refine Kd.C_drew ?_))); (case aB => exact (by repeat (first | (with_reducible first | exact HB.out | apply below_alloc | apply pw_below_drewN | apply below_drew1) | exact HB.out))); (case aF => exact (fun k_ hk => Kd.fresh' (Kd.R_lt (by (with_reducible repeat (first | apply Kd.R_alloc | apply Kd.R_drewN | apply Kd.R_drew)); exact HO210.out)) k_ hk)); (case aO => exact (by (with_reducible repeat (first | apply Kd.R_alloc | apply Kd.R_drewN | apply Kd.R_drew)); exact Kd.R_mono HO217.out (fun _ hk => hk.2))); (case aS => exact (below_size (by repeat (first | (with_reducible first | exact HB.out | apply below_alloc | apply pw_below_drewN | apply below_drew1) | exact HB.out)))); (case aL => have := LMc14.out; omega); intro v219 w29 ho hb hg hat; rw [← Ny218.out] at ho; have n0_ := Aside0.mk (Kd.R_over' (by (with_reducible repeat (first | apply Kd.R_alloc | apply Kd.R_drewN | apply Kd.R_drew)); exact HO204.out) (Kd.R_typed (by (with_reducible repeat (first | apply Kd.R_alloc | apply Kd.R_drewN | apply Kd.R_drew)); exact HO217.out)) (by decide) hg); have n1_ := Aside0.mk (Kd.R_after (ok := (fun _ => True)) (by (with_reducible repeat (first | apply Kd.R_alloc | apply Kd.R_drewN | apply Kd.R_drew)); exact HO210.out) hg hat); have n2_ := Aside0.mk (hb); have n3_ := Aside0.mk (ho); clear HO204; clear HO210; clear HB; clear HO217; have HO204 := n0_; have HO210 := n1_; have HB := n2_; have HO220 := n3_; clear n0_ n1_ n2_ n3_; clear ho hb hg hat; obtain ⟨Ao30, co30, eo30⟩ := Kd.R_slice HO220.out; subst eo30) | (go_at_call 51; (with_reducible refine (emit_Emit.calls kj1 _ _ y218 t221 t222 _ ?side1 ?side2 A15.out).mono ?_); (case side1 => repeat (first | exact (Kd.R_reads' HO220.out).2.2 | (with_reducible refine Kd.C_alloc ?_ _) | (with_reducible refine Kd.C_drewN ?_ _) | (with_reducible refine Kd.C_drew ?_))); (case side2 => exact (Kd.R_reads' HO220.out).2.1); rintro e w31 ⟨v223, rfl, ho0, hb⟩; have n0_ := Aside0.mk (Kd.R_below (by (with_reducible repeat (first | apply Kd.R_alloc | apply Kd.R_drewN | apply Kd.R_drew)); exact HO204.out) hb); have n1_ := Aside0.mk (Kd.R_below (by (with_reducible repeat (first | apply Kd.R_alloc | apply Kd.R_drewN | apply Kd.R_drew)); exact HO210.out) hb); have n2_ := Aside0.mk (Kd.R_below (by (with_reducible repeat (first | apply Kd.R_alloc | apply Kd.R_drewN | apply Kd.R_drew)); exact HO220.out) hb); have n3_ := Aside0.mk (Kd.R_lower ho0 (below_size (by repeat (first | (with_reducible first | exact HB.out | apply below_alloc | apply pw_below_drewN | apply below_drew1) | exact HB.out)))); have n4_ := Aside0.mk (below_step (by repeat (first | (with_reducible first | exact HB.out | apply below_alloc | apply pw_below_drewN | apply below_drew1) | exact HB.out)) hb); clear HO204; clear HO210; clear HO220; clear HB; have HO204 := n0_; have HO210 := n1_; have HO220 := n2_; have HO224 := n3_; have HB := n4_; clear n0_ n1_ n2_ n3_ n4_; (try clear hb); (try clear hb2); (try clear hk); (try clear hi); (try clear ho0)) | (go_at_call 52; (with_reducible refine (emit_Size.calls kj1 _ _ l0 t225 t226 _ ?side1 ?side2 A16.out).mono ?_); (case side1 => repeat (first | exact (Kd.C_below HR0.out HB.out) | (with_reducible refine Kd.C_alloc ?_ _) | (with_reducible refine Kd.C_drewN ?_ _) | (with_reducible refine Kd.C_drew ?_))); (case side2 => exact HC0.out); rintro e w32 ⟨rfl, hb⟩; have n0_ := Aside0.mk (Kd.R_below (by (with_reducible repeat (first | apply Kd.R_alloc | apply Kd.R_drewN | apply Kd.R_drew)); exact HO204.out) hb); have n1_ := Aside0.mk (Kd.R_below (by (with_reducible repeat (first | apply Kd.R_alloc | apply Kd.R_drewN | apply Kd.R_drew)); exact HO210.out) hb); have n2_ := Aside0.mk (Kd.R_below (by (with_reducible repeat (first | apply Kd.R_alloc | apply Kd.R_drewN | apply Kd.R_drew)); exact HO220.out) hb); have n3_ := Aside0.mk (Kd.R_below (by (with_reducible repeat (first | apply Kd.R_alloc | apply Kd.R_drewN | apply Kd.R_drew)); exact HO224.out) hb); have n4_ := Aside0.mk (below_step (by repeat (first | (with_reducible first | exact HB.out | apply below_alloc | apply pw_below_drewN | apply below_drew1) | exact HB.out)) hb); clear HO204; clear HO210; clear HO220; clear HO224; clear HB; have HO204 := n0_; have HO210 := n1_; have HO220 := n2_; have HO224 := n3_; have HB := n4_; clear n0_ n1_ n2_ n3_ n4_; (try clear hb); (try clear hb2); (try clear hk); (try clear hi)) | (go_at_call 53; (with_reducible refine (emit_Long.calls kj1 _ _ l0 t227 t228 _ ?side1 ?side2 A17.out).mono ?_); (case side1 => repeat (first | exact (Kd.C_below HR0.out HB.out) | (with_reducible refine Kd.C_alloc ?_ _) | (with_reducible refine Kd.C_drewN ?_ _) | (with_reducible refine Kd.C_drew ?_))); (case side2 => exact HC0.out); rintro e w33 ⟨v229, rfl, ho0, hb⟩; have n0_ := Aside0.mk (Kd.R_below (by (with_reducible repeat (first | apply Kd.R_alloc | apply Kd.R_drewN | apply Kd.R_drew)); exact HO204.out) hb); have n1_ := Aside0.mk (Kd.R_below (by (with_reducible repeat (first | apply Kd.R_alloc | apply Kd.R_drewN | apply Kd.R_drew)); exact HO210.out) hb); have n2_ := Aside0.mk (Kd.R_below (by (with_reducible repeat (first | apply Kd.R_alloc | apply Kd.R_drewN | apply Kd.R_drew)); exact HO220.out) hb); have n3_ := Aside0.mk (Kd.R_below (by (with_reducible repeat (first | apply Kd.R_alloc | apply Kd.R_drewN | apply Kd.R_drew)); exact HO224.out) hb); have n4_ := Aside0.mk (Kd.R_lower ho0 (below_size (by repeat (first | (with_reducible first | exact HB.out | apply below_alloc | apply pw_below_drewN | apply below_drew1) | exact HB.out)))); have n5_ := Aside0.mk (below_step (by repeat (first | (with_reducible first | exact HB.out | apply below_alloc | apply pw_below_drewN | apply below_drew1) | exact HB.out)) hb); clear HO204; clear HO210; clear HO220; clear HO224; clear HB; have HO204 := n0_; have HO210 := n1_; have HO220 := n2_; have HO224 := n3_; have HO230 := n4_; have HB := n5_; clear n0_ n1_ n2_ n3_ n4_ n5_; (try clear hb); (try clear hb2); (try clear hk); (try clear hi); (try clear ho0)))
            repeat (go_quiet (first | (go_at_call 33; (with_reducible refine (tamislaw23_Own.calls kj1 _ _ l0 t202 _ ?side1 ?side2 A10.out).mono ?_); (case side1 => repeat (first | exact (Kd.C_below HR0.out HB.out) | (with_reducible refine Kd.C_alloc ?_ _) | (with_reducible refine Kd.C_drewN ?_ _) | (with_reducible refine Kd.C_drew ?_))); (case side2 => exact HC0.out); rintro e w19 ⟨v203, rfl, ho0, hb⟩; have n0_ := Aside0.mk (Kd.R_lower ho0 (below_size (by repeat (first | (with_reducible first | exact HB.out | apply below_alloc | apply pw_below_drewN | apply below_drew1) | exact HB.out)))); have n1_ := Aside0.mk (below_step (by repeat (first | (with_reducible first | exact HB.out | apply below_alloc | apply pw_below_drewN | apply below_drew1) | exact HB.out)) hb); clear HB; have HO204 := n0_; have HB := n1_; clear n0_ n1_; (try clear hb); (try clear hb2); (try clear hk); (try clear hi); (try clear ho0)) | ((with_reducible refine gate_dst (N := 28) rfl ?_); refine Kd.R_lit k40 _ 40 ?hg (N := 28) ?hd (xs := ([] : List (S40))) (inner := []) (ok := fun _ => True) (okp := fun _ => True) ?hr ?hp (fun _ hk => hk) trivial (Below.refl _ _) (Nat.le_refl _) (by simp) ?_; (case hd => rfl); (case hg => rfl); (case hr => first | (go_simp; done) | (go_simp; rfl)); (case hp => exact (Reps.none _ _)); intro v206 w20 ho21 hb hg_ hnew_; clear hg_ hnew_; (first | rw [← Ny205.out] at ho21 | (simp only [Int.reduceToNat] at ho21; rw [← Ny205.out] at ho21)); have n0_ := Aside0.mk (Kd.R_below (by (with_reducible repeat (first | apply Kd.R_alloc | apply Kd.R_drewN | apply Kd.R_drew)); exact HO204.out) hb); have n1_ := Aside0.mk (Kd.R_lower ho21 (below_size (by repeat (first | (with_reducible first | exact HB.out | apply below_alloc | apply pw_below_drewN | apply below_drew1) | exact HB.out)))); have n2_ := Aside0.mk (below_step (by repeat (first | (with_reducible first | exact HB.out | apply below_alloc | apply pw_below_drewN | apply below_drew1) | exact HB.out)) hb); clear HO204; clear HB; have HO204 := n0_; have HO207 := n1_; have HB := n2_; clear n0_ n1_ n2_; clear hb ho21) | ((with_reducible refine gate_builtin (b := .append) (xs := #[.tmp 28, .tmp 29]) rfl ?_); at_builtin; refine Kd.R_append_rows k40 (w0 := w) w.heap.size rfl (.tmp 28) (.tmp 29) 24 40 (.agg #[(.int .i64 0), (.int .u16 0), (.int .u32 0), (.int .i64 0), (.int .i64 0)]) 32 rfl Try.underlying24 info40 rfl (by decide) (by omega) v206 y205 l0 _ _ _ (fun _ => True) (fun _ => False) rfl rfl ?aO ?aR (fun _ _ h => h) (fun _ h => h.elim) ?aF ?aB ?aS ?aL ?_; (case aR => repeat (first | exact (Kd.C_below HR0.out HB.out) | (with_reducible refine Kd.C_alloc ?_ _) | (with_reducible refine Kd.C_drewN ?_ _) | (with_reducible refine Kd.C_drew ?_))); (case aB => exact (by repeat (first | (with_reducible first | exact HB.out | apply below_alloc | apply pw_below_drewN | apply below_drew1) | exact HB.out))); (case aF => exact (fun _ _ => trivial)); (case aO => exact (by (with_reducible repeat (first | apply Kd.R_alloc | apply Kd.R_drewN | apply Kd.R_drew)); exact HO207.out)); (case aS => exact (below_size (by repeat (first | (with_reducible first | exact HB.out | apply below_alloc | apply pw_below_drewN | apply below_drew1) | exact HB.out)))); (case aL => have := LMc11.out; omega); intro v209 w22 ho hb hg hat; rw [← Ny208.out] at ho; have n0_ := Aside0.mk (Kd.R_over' (by (with_reducible repeat (first | apply Kd.R_alloc | apply Kd.R_drewN | apply Kd.R_drew)); exact HO204.out) (Kd.R_typed (by (with_reducible repeat (first | apply Kd.R_alloc | apply Kd.R_drewN | apply Kd.R_drew)); exact HO207.out)) (by decide) hg); have n1_ := Aside0.mk (hb); have n2_ := Aside0.mk (ho); clear HO204; clear HB; clear HO207; have HO204 := n0_; have HB := n1_; have HO210 := n2_; clear n0_ n1_ n2_; clear ho hb hg hat; obtain ⟨Ao23, co23, eo23⟩ := Kd.R_slice HO210.out; subst eo23) | (go_at_call 50; (with_reducible refine (emit_Check.calls _ _ y208 t211 t212 _ ?side1 ?side2 A12.out).mono ?_); (case side1 => repeat (first | exact (Kd.R_reads' HO210.out).2.2 | (with_reducible refine Kd.C_alloc ?_ _) | (with_reducible refine Kd.C_drewN ?_ _) | (with_reducible refine Kd.C_drew ?_))); (case side2 => exact (Kd.R_reads' HO210.out).2.1); rintro e w24 ⟨rfl, hb⟩; have n0_ := Aside0.mk (Kd.R_below (by (with_reducible repeat (first | apply Kd.R_alloc | apply Kd.R_drewN | apply Kd.R_drew)); exact HO204.out) hb); have n1_ := Aside0.mk (Kd.R_below (by (with_reducible repeat (first | apply Kd.R_alloc | apply Kd.R_drewN | apply Kd.R_drew)); exact HO210.out) hb); have n2_ := Aside0.mk (below_step (by repeat (first | (with_reducible first | exact HB.out | apply below_alloc | apply pw_below_drewN | apply below_drew1) | exact HB.out)) hb); clear HO204; clear HO210; clear HB; have HO204 := n0_; have HO210 := n1_; have HB := n2_; clear n0_ n1_ n2_; (try clear hb); (try clear hb2); (try clear hk); (try clear hi); obtain ⟨Ao25, co25, eo25⟩ := Kd.R_slice HO204.out; subst eo25) | (go_at_call 36; (with_reducible refine (tamisref23_Check.calls kj1 _ _ t202 t213 t214 _ ?side1 ?side2 A13.out).mono ?_); (case side1 => repeat (first | exact (Kd.R_reads' HO204.out).2.2 | (with_reducible refine Kd.C_alloc ?_ _) | (with_reducible refine Kd.C_drewN ?_ _) | (with_reducible refine Kd.C_drew ?_))); (case side2 => exact (Kd.R_reads' HO204.out).2.1); rintro e w26 ⟨rfl, hb⟩; have n0_ := Aside0.mk (Kd.R_below (by (with_reducible repeat (first | apply Kd.R_alloc | apply Kd.R_drewN | apply Kd.R_drew)); exact HO204.out) hb); have n1_ := Aside0.mk (Kd.R_below (by (with_reducible repeat (first | apply Kd.R_alloc | apply Kd.R_drewN | apply Kd.R_drew)); exact HO210.out) hb); have n2_ := Aside0.mk (below_step (by repeat (first | (with_reducible first | exact HB.out | apply below_alloc | apply pw_below_drewN | apply below_drew1) | exact HB.out)) hb); clear HO204; clear HO210; clear HB; have HO204 := n0_; have HO210 := n1_; have HB := n2_; clear n0_ n1_ n2_; (try clear hb); (try clear hb2); (try clear hk); (try clear hi)) | ((with_reducible refine gate_dst (N := 40) rfl ?_); refine Kd.R_lit k40 _ 40 ?hg (N := 40) ?hd (xs := ([] : List (S40))) (inner := []) (ok := fun _ => True) (okp := fun _ => True) ?hr ?hp (fun _ hk => hk) trivial (Below.refl _ _) (Nat.le_refl _) (by simp) ?_; (case hd => rfl); (case hg => rfl); (case hr => first | (go_simp; done) | (go_simp; rfl)); (case hp => exact (Reps.none _ _)); intro v216 w27 ho28 hb hg_ hnew_; clear hg_ hnew_; (first | rw [← Ny215.out] at ho28 | (simp only [Int.reduceToNat] at ho28; rw [← Ny215.out] at ho28)); have n0_ := Aside0.mk (Kd.R_below (by (with_reducible repeat (first | apply Kd.R_alloc | apply Kd.R_drewN | apply Kd.R_drew)); exact HO204.out) hb); have n1_ := Aside0.mk (Kd.R_elder' (by (with_reducible repeat (first | apply Kd.R_alloc | apply Kd.R_drewN | apply Kd.R_drew)); exact HO210.out) (Kd.R_base ho28) hb); have n2_ := Aside0.mk (Kd.R_lower (Kd.R_new' ho28 (Kd.R_lt (by (with_reducible repeat (first | apply Kd.R_alloc | apply Kd.R_drewN | apply Kd.R_drew)); exact HO210.out))) (below_size (by repeat (first | (with_reducible first | exact HB.out | apply below_alloc | apply pw_below_drewN | apply below_drew1) | exact HB.out)))); have n3_ := Aside0.mk (below_step (by repeat (first | (with_reducible first | exact HB.out | apply below_alloc | apply pw_below_drewN | apply below_drew1) | exact HB.out)) hb); clear HO204; clear HO210; clear HB; have HO204 := n0_; have HO210 := n1_; have HO217 := n2_; have HB := n3_; clear n0_ n1_ n2_ n3_; clear hb ho28) | ((with_reducible refine gate_builtin (b := .append) (xs := #[.tmp 40, .tmp 41]) rfl ?_); at_builtin; refine Kd.R_append_rows k40 (w0 := w) w.heap.size rfl (.tmp 40) (.tmp 41) 24 40 (.agg #[(.int .i64 0), (.int .u16 0), (.int .u32 0), (.int .i64 0), (.int .i64 0)]) 32 rfl Try.underlying24 info40 rfl (by decide) (by omega) v216 y215 l0 _ _ _ (fun k_ => some k_ ≠ (.slice Ao23 y208.length co23 : Value).ownBlock) (fun _ => False) rfl rfl ?aO ?aR (fun _ _ h => h) (fun _ h => h.elim) ?aF ?aB ?aS ?aL ?_; (case aR => repeat (first | exact (Kd.C_below HR0.out HB.out) | (with_reducible refine Kd.C_alloc ?_ _) | (with_reducible refine Kd.C_drewN ?_ _) | (with_reducible refine Kd.C_drew ?_))); (case aB => exact (by repeat (first | (with_reducible first | exact HB.out | apply below_alloc | apply pw_below_drewN | apply below_drew1) | exact HB.out))); (case aF => exact (fun k_ hk => Kd.fresh' (Kd.R_lt (by (with_reducible repeat (first | apply Kd.R_alloc | apply Kd.R_drewN | apply Kd.R_drew)); exact HO210.out)) k_ hk)); (case aO => exact (by (with_reducible repeat (first | apply Kd.R_alloc | apply Kd.R_drewN | apply Kd.R_drew)); exact Kd.R_mono HO217.out (fun _ hk => hk.2))); (case aS => exact (below_size (by repeat (first | (with_reducible first | exact HB.out | apply below_alloc | apply pw_below_drewN | apply below_drew1) | exact HB.out)))); (case aL => have := LMc14.out; omega); intro v219 w29 ho hb hg hat; rw [← Ny218.out] at ho; have n0_ := Aside0.mk (Kd.R_over' (by (with_reducible repeat (first | apply Kd.R_alloc | apply Kd.R_drewN | apply Kd.R_drew)); exact HO204.out) (Kd.R_typed (by (with_reducible repeat (first | apply Kd.R_alloc | apply Kd.R_drewN | apply Kd.R_drew)); exact HO217.out)) (by decide) hg); have n1_ := Aside0.mk (Kd.R_after (ok := (fun _ => True)) (by (with_reducible repeat (first | apply Kd.R_alloc | apply Kd.R_drewN | apply Kd.R_drew)); exact HO210.out) hg hat); have n2_ := Aside0.mk (hb); have n3_ := Aside0.mk (ho); clear HO204; clear HO210; clear HB; clear HO217; have HO204 := n0_; have HO210 := n1_; have HB := n2_; have HO220 := n3_; clear n0_ n1_ n2_ n3_; clear ho hb hg hat; obtain ⟨Ao30, co30, eo30⟩ := Kd.R_slice HO220.out; subst eo30) | (go_at_call 51; (with_reducible refine (emit_Emit.calls kj1 _ _ y218 t221 t222 _ ?side1 ?side2 A15.out).mono ?_); (case side1 => repeat (first | exact (Kd.R_reads' HO220.out).2.2 | (with_reducible refine Kd.C_alloc ?_ _) | (with_reducible refine Kd.C_drewN ?_ _) | (with_reducible refine Kd.C_drew ?_))); (case side2 => exact (Kd.R_reads' HO220.out).2.1); rintro e w31 ⟨v223, rfl, ho0, hb⟩; have n0_ := Aside0.mk (Kd.R_below (by (with_reducible repeat (first | apply Kd.R_alloc | apply Kd.R_drewN | apply Kd.R_drew)); exact HO204.out) hb); have n1_ := Aside0.mk (Kd.R_below (by (with_reducible repeat (first | apply Kd.R_alloc | apply Kd.R_drewN | apply Kd.R_drew)); exact HO210.out) hb); have n2_ := Aside0.mk (Kd.R_below (by (with_reducible repeat (first | apply Kd.R_alloc | apply Kd.R_drewN | apply Kd.R_drew)); exact HO220.out) hb); have n3_ := Aside0.mk (Kd.R_lower ho0 (below_size (by repeat (first | (with_reducible first | exact HB.out | apply below_alloc | apply pw_below_drewN | apply below_drew1) | exact HB.out)))); have n4_ := Aside0.mk (below_step (by repeat (first | (with_reducible first | exact HB.out | apply below_alloc | apply pw_below_drewN | apply below_drew1) | exact HB.out)) hb); clear HO204; clear HO210; clear HO220; clear HB; have HO204 := n0_; have HO210 := n1_; have HO220 := n2_; have HO224 := n3_; have HB := n4_; clear n0_ n1_ n2_ n3_ n4_; (try clear hb); (try clear hb2); (try clear hk); (try clear hi); (try clear ho0)) | (go_at_call 52; (with_reducible refine (emit_Size.calls kj1 _ _ l0 t225 t226 _ ?side1 ?side2 A16.out).mono ?_); (case side1 => repeat (first | exact (Kd.C_below HR0.out HB.out) | (with_reducible refine Kd.C_alloc ?_ _) | (with_reducible refine Kd.C_drewN ?_ _) | (with_reducible refine Kd.C_drew ?_))); (case side2 => exact HC0.out); rintro e w32 ⟨rfl, hb⟩; have n0_ := Aside0.mk (Kd.R_below (by (with_reducible repeat (first | apply Kd.R_alloc | apply Kd.R_drewN | apply Kd.R_drew)); exact HO204.out) hb); have n1_ := Aside0.mk (Kd.R_below (by (with_reducible repeat (first | apply Kd.R_alloc | apply Kd.R_drewN | apply Kd.R_drew)); exact HO210.out) hb); have n2_ := Aside0.mk (Kd.R_below (by (with_reducible repeat (first | apply Kd.R_alloc | apply Kd.R_drewN | apply Kd.R_drew)); exact HO220.out) hb); have n3_ := Aside0.mk (Kd.R_below (by (with_reducible repeat (first | apply Kd.R_alloc | apply Kd.R_drewN | apply Kd.R_drew)); exact HO224.out) hb); have n4_ := Aside0.mk (below_step (by repeat (first | (with_reducible first | exact HB.out | apply below_alloc | apply pw_below_drewN | apply below_drew1) | exact HB.out)) hb); clear HO204; clear HO210; clear HO220; clear HO224; clear HB; have HO204 := n0_; have HO210 := n1_; have HO220 := n2_; have HO224 := n3_; have HB := n4_; clear n0_ n1_ n2_ n3_ n4_; (try clear hb); (try clear hb2); (try clear hk); (try clear hi)) | (go_at_call 53; (with_reducible refine (emit_Long.calls kj1 _ _ l0 t227 t228 _ ?side1 ?side2 A17.out).mono ?_); (case side1 => repeat (first | exact (Kd.C_below HR0.out HB.out) | (with_reducible refine Kd.C_alloc ?_ _) | (with_reducible refine Kd.C_drewN ?_ _) | (with_reducible refine Kd.C_drew ?_))); (case side2 => exact HC0.out); rintro e w33 ⟨v229, rfl, ho0, hb⟩; have n0_ := Aside0.mk (Kd.R_below (by (with_reducible repeat (first | apply Kd.R_alloc | apply Kd.R_drewN | apply Kd.R_drew)); exact HO204.out) hb); have n1_ := Aside0.mk (Kd.R_below (by (with_reducible repeat (first | apply Kd.R_alloc | apply Kd.R_drewN | apply Kd.R_drew)); exact HO210.out) hb); have n2_ := Aside0.mk (Kd.R_below (by (with_reducible repeat (first | apply Kd.R_alloc | apply Kd.R_drewN | apply Kd.R_drew)); exact HO220.out) hb); have n3_ := Aside0.mk (Kd.R_below (by (with_reducible repeat (first | apply Kd.R_alloc | apply Kd.R_drewN | apply Kd.R_drew)); exact HO224.out) hb); have n4_ := Aside0.mk (Kd.R_lower ho0 (below_size (by repeat (first | (with_reducible first | exact HB.out | apply below_alloc | apply pw_below_drewN | apply below_drew1) | exact HB.out)))); have n5_ := Aside0.mk (below_step (by repeat (first | (with_reducible first | exact HB.out | apply below_alloc | apply pw_below_drewN | apply below_drew1) | exact HB.out)) hb); clear HO204; clear HO210; clear HO220; clear HO224; clear HB; have HO204 := n0_; have HO210 := n1_; have HO220 := n2_; have HO224 := n3_; have HO230 := n4_; have HB := n5_; clear n0_ n1_ n2_ n3_ n4_ n5_; (try clear hb); (try clear hb2); (try clear hk); (try clear hi); (try clear ho0))); go_upto_region 9 with (first | (go_at_call 33; (with_reducible refine (tamislaw23_Own.calls kj1 _ _ l0 t202 _ ?side1 ?side2 A10.out).mono ?_); (case side1 => repeat (first | exact (Kd.C_below HR0.out HB.out) | (with_reducible refine Kd.C_alloc ?_ _) | (with_reducible refine Kd.C_drewN ?_ _) | (with_reducible refine Kd.C_drew ?_))); (case side2 => exact HC0.out); rintro e w19 ⟨v203, rfl, ho0, hb⟩; have n0_ := Aside0.mk (Kd.R_lower ho0 (below_size (by repeat (first | (with_reducible first | exact HB.out | apply below_alloc | apply pw_below_drewN | apply below_drew1) | exact HB.out)))); have n1_ := Aside0.mk (below_step (by repeat (first | (with_reducible first | exact HB.out | apply below_alloc | apply pw_below_drewN | apply below_drew1) | exact HB.out)) hb); clear HB; have HO204 := n0_; have HB := n1_; clear n0_ n1_; (try clear hb); (try clear hb2); (try clear hk); (try clear hi); (try clear ho0)) | ((with_reducible refine gate_dst (N := 28) rfl ?_); refine Kd.R_lit k40 _ 40 ?hg (N := 28) ?hd (xs := ([] : List (S40))) (inner := []) (ok := fun _ => True) (okp := fun _ => True) ?hr ?hp (fun _ hk => hk) trivial (Below.refl _ _) (Nat.le_refl _) (by simp) ?_; (case hd => rfl); (case hg => rfl); (case hr => first | (go_simp; done) | (go_simp; rfl)); (case hp => exact (Reps.none _ _)); intro v206 w20 ho21 hb hg_ hnew_; clear hg_ hnew_; (first | rw [← Ny205.out] at ho21 | (simp only [Int.reduceToNat] at ho21; rw [← Ny205.out] at ho21)); have n0_ := Aside0.mk (Kd.R_below (by (with_reducible repeat (first | apply Kd.R_alloc | apply Kd.R_drewN | apply Kd.R_drew)); exact HO204.out) hb); have n1_ := Aside0.mk (Kd.R_lower ho21 (below_size (by repeat (first | (with_reducible first | exact HB.out | apply below_alloc | apply pw_below_drewN | apply below_drew1) | exact HB.out)))); have n2_ := Aside0.mk (below_step (by repeat (first | (with_reducible first | exact HB.out | apply below_alloc | apply pw_below_drewN | apply below_drew1) | exact HB.out)) hb); clear HO204; clear HB; have HO204 := n0_; have HO207 := n1_; have HB := n2_; clear n0_ n1_ n2_; clear hb ho21) | ((with_reducible refine gate_builtin (b := .append) (xs := #[.tmp 28, .tmp 29]) rfl ?_); at_builtin; refine Kd.R_append_rows k40 (w0 := w) w.heap.size rfl (.tmp 28) (.tmp 29) 24 40 (.agg #[(.int .i64 0), (.int .u16 0), (.int .u32 0), (.int .i64 0), (.int .i64 0)]) 32 rfl Try.underlying24 info40 rfl (by decide) (by omega) v206 y205 l0 _ _ _ (fun _ => True) (fun _ => False) rfl rfl ?aO ?aR (fun _ _ h => h) (fun _ h => h.elim) ?aF ?aB ?aS ?aL ?_; (case aR => repeat (first | exact (Kd.C_below HR0.out HB.out) | (with_reducible refine Kd.C_alloc ?_ _) | (with_reducible refine Kd.C_drewN ?_ _) | (with_reducible refine Kd.C_drew ?_))); (case aB => exact (by repeat (first | (with_reducible first | exact HB.out | apply below_alloc | apply pw_below_drewN | apply below_drew1) | exact HB.out))); (case aF => exact (fun _ _ => trivial)); (case aO => exact (by (with_reducible repeat (first | apply Kd.R_alloc | apply Kd.R_drewN | apply Kd.R_drew)); exact HO207.out)); (case aS => exact (below_size (by repeat (first | (with_reducible first | exact HB.out | apply below_alloc | apply pw_below_drewN | apply below_drew1) | exact HB.out)))); (case aL => have := LMc11.out; omega); intro v209 w22 ho hb hg hat; rw [← Ny208.out] at ho; have n0_ := Aside0.mk (Kd.R_over' (by (with_reducible repeat (first | apply Kd.R_alloc | apply Kd.R_drewN | apply Kd.R_drew)); exact HO204.out) (Kd.R_typed (by (with_reducible repeat (first | apply Kd.R_alloc | apply Kd.R_drewN | apply Kd.R_drew)); exact HO207.out)) (by decide) hg); have n1_ := Aside0.mk (hb); have n2_ := Aside0.mk (ho); clear HO204; clear HB; clear HO207; have HO204 := n0_; have HB := n1_; have HO210 := n2_; clear n0_ n1_ n2_; clear ho hb hg hat; obtain ⟨Ao23, co23, eo23⟩ := Kd.R_slice HO210.out; subst eo23) | (go_at_call 50; (with_reducible refine (emit_Check.calls _ _ y208 t211 t212 _ ?side1 ?side2 A12.out).mono ?_); (case side1 => repeat (first | exact (Kd.R_reads' HO210.out).2.2 | (with_reducible refine Kd.C_alloc ?_ _) | (with_reducible refine Kd.C_drewN ?_ _) | (with_reducible refine Kd.C_drew ?_))); (case side2 => exact (Kd.R_reads' HO210.out).2.1); rintro e w24 ⟨rfl, hb⟩; have n0_ := Aside0.mk (Kd.R_below (by (with_reducible repeat (first | apply Kd.R_alloc | apply Kd.R_drewN | apply Kd.R_drew)); exact HO204.out) hb); have n1_ := Aside0.mk (Kd.R_below (by (with_reducible repeat (first | apply Kd.R_alloc | apply Kd.R_drewN | apply Kd.R_drew)); exact HO210.out) hb); have n2_ := Aside0.mk (below_step (by repeat (first | (with_reducible first | exact HB.out | apply below_alloc | apply pw_below_drewN | apply below_drew1) | exact HB.out)) hb); clear HO204; clear HO210; clear HB; have HO204 := n0_; have HO210 := n1_; have HB := n2_; clear n0_ n1_ n2_; (try clear hb); (try clear hb2); (try clear hk); (try clear hi); obtain ⟨Ao25, co25, eo25⟩ := Kd.R_slice HO204.out; subst eo25) | (go_at_call 36; (with_reducible refine (tamisref23_Check.calls kj1 _ _ t202 t213 t214 _ ?side1 ?side2 A13.out).mono ?_); (case side1 => repeat (first | exact (Kd.R_reads' HO204.out).2.2 | (with_reducible refine Kd.C_alloc ?_ _) | (with_reducible refine Kd.C_drewN ?_ _) | (with_reducible refine Kd.C_drew ?_))); (case side2 => exact (Kd.R_reads' HO204.out).2.1); rintro e w26 ⟨rfl, hb⟩; have n0_ := Aside0.mk (Kd.R_below (by (with_reducible repeat (first | apply Kd.R_alloc | apply Kd.R_drewN | apply Kd.R_drew)); exact HO204.out) hb); have n1_ := Aside0.mk (Kd.R_below (by (with_reducible repeat (first | apply Kd.R_alloc | apply Kd.R_drewN | apply Kd.R_drew)); exact HO210.out) hb); have n2_ := Aside0.mk (below_step (by repeat (first | (with_reducible first | exact HB.out | apply below_alloc | apply pw_below_drewN | apply below_drew1) | exact HB.out)) hb); clear HO204; clear HO210; clear HB; have HO204 := n0_; have HO210 := n1_; have HB := n2_; clear n0_ n1_ n2_; (try clear hb); (try clear hb2); (try clear hk); (try clear hi)) | ((with_reducible refine gate_dst (N := 40) rfl ?_); refine Kd.R_lit k40 _ 40 ?hg (N := 40) ?hd (xs := ([] : List (S40))) (inner := []) (ok := fun _ => True) (okp := fun _ => True) ?hr ?hp (fun _ hk => hk) trivial (Below.refl _ _) (Nat.le_refl _) (by simp) ?_; (case hd => rfl); (case hg => rfl); (case hr => first | (go_simp; done) | (go_simp; rfl)); (case hp => exact (Reps.none _ _)); intro v216 w27 ho28 hb hg_ hnew_; clear hg_ hnew_; (first | rw [← Ny215.out] at ho28 | (simp only [Int.reduceToNat] at ho28; rw [← Ny215.out] at ho28)); have n0_ := Aside0.mk (Kd.R_below (by (with_reducible repeat (first | apply Kd.R_alloc | apply Kd.R_drewN | apply Kd.R_drew)); exact HO204.out) hb); have n1_ := Aside0.mk (Kd.R_elder' (by (with_reducible repeat (first | apply Kd.R_alloc | apply Kd.R_drewN | apply Kd.R_drew)); exact HO210.out) (Kd.R_base ho28) hb); have n2_ := Aside0.mk (Kd.R_lower (Kd.R_new' ho28 (Kd.R_lt (by (with_reducible repeat (first | apply Kd.R_alloc | apply Kd.R_drewN | apply Kd.R_drew)); exact HO210.out))) (below_size (by repeat (first | (with_reducible first | exact HB.out | apply below_alloc | apply pw_below_drewN | apply below_drew1) | exact HB.out)))); have n3_ := Aside0.mk (below_step (by repeat (first | (with_reducible first | exact HB.out | apply below_alloc | apply pw_below_drewN | apply below_drew1) | exact HB.out)) hb); clear HO204; clear HO210; clear HB; have HO204 := n0_; have HO210 := n1_; have HO217 := n2_; have HB := n3_; clear n0_ n1_ n2_ n3_; clear hb ho28) | ((with_reducible refine gate_builtin (b := .append) (xs := #[.tmp 40, .tmp 41]) rfl ?_); at_builtin; refine Kd.R_append_rows k40 (w0 := w) w.heap.size rfl (.tmp 40) (.tmp 41) 24 40 (.agg #[(.int .i64 0), (.int .u16 0), (.int .u32 0), (.int .i64 0), (.int .i64 0)]) 32 rfl Try.underlying24 info40 rfl (by decide) (by omega) v216 y215 l0 _ _ _ (fun k_ => some k_ ≠ (.slice Ao23 y208.length co23 : Value).ownBlock) (fun _ => False) rfl rfl ?aO ?aR (fun _ _ h => h) (fun _ h => h.elim) ?aF ?aB ?aS ?aL ?_; (case aR => repeat (first | exact (Kd.C_below HR0.out HB.out) | (with_reducible refine Kd.C_alloc ?_ _) | (with_reducible refine Kd.C_drewN ?_ _) | (with_reducible refine Kd.C_drew ?_))); (case aB => exact (by repeat (first | (with_reducible first | exact HB.out | apply below_alloc | apply pw_below_drewN | apply below_drew1) | exact HB.out))); (case aF => exact (fun k_ hk => Kd.fresh' (Kd.R_lt (by (with_reducible repeat (first | apply Kd.R_alloc | apply Kd.R_drewN | apply Kd.R_drew)); exact HO210.out)) k_ hk)); (case aO => exact (by (with_reducible repeat (first | apply Kd.R_alloc | apply Kd.R_drewN | apply Kd.R_drew)); exact Kd.R_mono HO217.out (fun _ hk => hk.2))); (case aS => exact (below_size (by repeat (first | (with_reducible first | exact HB.out | apply below_alloc | apply pw_below_drewN | apply below_drew1) | exact HB.out)))); (case aL => have := LMc14.out; omega); intro v219 w29 ho hb hg hat; rw [← Ny218.out] at ho; have n0_ := Aside0.mk (Kd.R_over' (by (with_reducible repeat (first | apply Kd.R_alloc | apply Kd.R_drewN | apply Kd.R_drew)); exact HO204.out) (Kd.R_typed (by (with_reducible repeat (first | apply Kd.R_alloc | apply Kd.R_drewN | apply Kd.R_drew)); exact HO217.out)) (by decide) hg); have n1_ := Aside0.mk (Kd.R_after (ok := (fun _ => True)) (by (with_reducible repeat (first | apply Kd.R_alloc | apply Kd.R_drewN | apply Kd.R_drew)); exact HO210.out) hg hat); have n2_ := Aside0.mk (hb); have n3_ := Aside0.mk (ho); clear HO204; clear HO210; clear HB; clear HO217; have HO204 := n0_; have HO210 := n1_; have HB := n2_; have HO220 := n3_; clear n0_ n1_ n2_ n3_; clear ho hb hg hat; obtain ⟨Ao30, co30, eo30⟩ := Kd.R_slice HO220.out; subst eo30) | (go_at_call 51; (with_reducible refine (emit_Emit.calls kj1 _ _ y218 t221 t222 _ ?side1 ?side2 A15.out).mono ?_); (case side1 => repeat (first | exact (Kd.R_reads' HO220.out).2.2 | (with_reducible refine Kd.C_alloc ?_ _) | (with_reducible refine Kd.C_drewN ?_ _) | (with_reducible refine Kd.C_drew ?_))); (case side2 => exact (Kd.R_reads' HO220.out).2.1); rintro e w31 ⟨v223, rfl, ho0, hb⟩; have n0_ := Aside0.mk (Kd.R_below (by (with_reducible repeat (first | apply Kd.R_alloc | apply Kd.R_drewN | apply Kd.R_drew)); exact HO204.out) hb); have n1_ := Aside0.mk (Kd.R_below (by (with_reducible repeat (first | apply Kd.R_alloc | apply Kd.R_drewN | apply Kd.R_drew)); exact HO210.out) hb); have n2_ := Aside0.mk (Kd.R_below (by (with_reducible repeat (first | apply Kd.R_alloc | apply Kd.R_drewN | apply Kd.R_drew)); exact HO220.out) hb); have n3_ := Aside0.mk (Kd.R_lower ho0 (below_size (by repeat (first | (with_reducible first | exact HB.out | apply below_alloc | apply pw_below_drewN | apply below_drew1) | exact HB.out)))); have n4_ := Aside0.mk (below_step (by repeat (first | (with_reducible first | exact HB.out | apply below_alloc | apply pw_below_drewN | apply below_drew1) | exact HB.out)) hb); clear HO204; clear HO210; clear HO220; clear HB; have HO204 := n0_; have HO210 := n1_; have HO220 := n2_; have HO224 := n3_; have HB := n4_; clear n0_ n1_ n2_ n3_ n4_; (try clear hb); (try clear hb2); (try clear hk); (try clear hi); (try clear ho0)) | (go_at_call 52; (with_reducible refine (emit_Size.calls kj1 _ _ l0 t225 t226 _ ?side1 ?side2 A16.out).mono ?_); (case side1 => repeat (first | exact (Kd.C_below HR0.out HB.out) | (with_reducible refine Kd.C_alloc ?_ _) | (with_reducible refine Kd.C_drewN ?_ _) | (with_reducible refine Kd.C_drew ?_))); (case side2 => exact HC0.out); rintro e w32 ⟨rfl, hb⟩; have n0_ := Aside0.mk (Kd.R_below (by (with_reducible repeat (first | apply Kd.R_alloc | apply Kd.R_drewN | apply Kd.R_drew)); exact HO204.out) hb); have n1_ := Aside0.mk (Kd.R_below (by (with_reducible repeat (first | apply Kd.R_alloc | apply Kd.R_drewN | apply Kd.R_drew)); exact HO210.out) hb); have n2_ := Aside0.mk (Kd.R_below (by (with_reducible repeat (first | apply Kd.R_alloc | apply Kd.R_drewN | apply Kd.R_drew)); exact HO220.out) hb); have n3_ := Aside0.mk (Kd.R_below (by (with_reducible repeat (first | apply Kd.R_alloc | apply Kd.R_drewN | apply Kd.R_drew)); exact HO224.out) hb); have n4_ := Aside0.mk (below_step (by repeat (first | (with_reducible first | exact HB.out | apply below_alloc | apply pw_below_drewN | apply below_drew1) | exact HB.out)) hb); clear HO204; clear HO210; clear HO220; clear HO224; clear HB; have HO204 := n0_; have HO210 := n1_; have HO220 := n2_; have HO224 := n3_; have HB := n4_; clear n0_ n1_ n2_ n3_ n4_; (try clear hb); (try clear hb2); (try clear hk); (try clear hi)) | (go_at_call 53; (with_reducible refine (emit_Long.calls kj1 _ _ l0 t227 t228 _ ?side1 ?side2 A17.out).mono ?_); (case side1 => repeat (first | exact (Kd.C_below HR0.out HB.out) | (with_reducible refine Kd.C_alloc ?_ _) | (with_reducible refine Kd.C_drewN ?_ _) | (with_reducible refine Kd.C_drew ?_))); (case side2 => exact HC0.out); rintro e w33 ⟨v229, rfl, ho0, hb⟩; have n0_ := Aside0.mk (Kd.R_below (by (with_reducible repeat (first | apply Kd.R_alloc | apply Kd.R_drewN | apply Kd.R_drew)); exact HO204.out) hb); have n1_ := Aside0.mk (Kd.R_below (by (with_reducible repeat (first | apply Kd.R_alloc | apply Kd.R_drewN | apply Kd.R_drew)); exact HO210.out) hb); have n2_ := Aside0.mk (Kd.R_below (by (with_reducible repeat (first | apply Kd.R_alloc | apply Kd.R_drewN | apply Kd.R_drew)); exact HO220.out) hb); have n3_ := Aside0.mk (Kd.R_below (by (with_reducible repeat (first | apply Kd.R_alloc | apply Kd.R_drewN | apply Kd.R_drew)); exact HO224.out) hb); have n4_ := Aside0.mk (Kd.R_lower ho0 (below_size (by repeat (first | (with_reducible first | exact HB.out | apply below_alloc | apply pw_below_drewN | apply below_drew1) | exact HB.out)))); have n5_ := Aside0.mk (below_step (by repeat (first | (with_reducible first | exact HB.out | apply below_alloc | apply pw_below_drewN | apply below_drew1) | exact HB.out)) hb); clear HO204; clear HO210; clear HO220; clear HO224; clear HB; have HO204 := n0_; have HO210 := n1_; have HO220 := n2_; have HO224 := n3_; have HO230 := n4_; have HB := n5_; clear n0_ n1_ n2_ n3_ n4_ n5_; (try clear hb); (try clear hb2); (try clear hk); (try clear hi); (try clear ho0))))
            (try simp only [Act.put, List.setIfInBounds_toArray, List.set_cons_zero, List.set_cons_succ])
            go_cut [73] (fun v73 wc => ∃ (kq : Nat) (x73_17 : Bool), v73 = .bool x73_17 ∧ Aside0 (tamislaw23_EmitTells.j1 kq t202 t212 t214 t221 t222 t225 t227 x73_17 = some r) ∧ Aside0 (kq ≤ kj1) ∧ Aside0 (Kd.R k38 38 wc w.heap.size (fun _ => True) (.slice Ao25 t202.length co25) t202) ∧ Aside0 (Kd.R k56 56 wc w.heap.size (fun _ => True) v223 t221) ∧ Aside0 (Kd.R Kd.bool 4 wc w.heap.size (fun _ => True) v229 t227) ∧ Aside0 (Below w.heap.size w wc))
            case first =>
              have H := HC18.out
              clear HC18
              by_cases c34 : t211 = t213
              · rw [if_pos c34] at H
                have c34b0 : (t211 == t213) = true := beq_iff_eq.mpr c34
                have c34b1 : (t211 != t213) = false := bne_eq_false_iff_eq.mpr c34
                clear c34
                (first | rw [c34b0] | (simp only [i64_w, i32_w]; rw [c34b0]) | skip)
                by_cases c35 : t212 = t214
                · rw [if_pos c35] at H
                  have c35b0 : (t212 == t214) = true := beq_iff_eq.mpr c35
                  have c35b1 : (t212 != t214) = false := bne_eq_false_iff_eq.mpr c35
                  clear c35
                  by_cases c36 : t226 = t212
                  · rw [if_pos c36] at H
                    have c36b0 : (t226 == t212) = true := beq_iff_eq.mpr c36
                    have c36b1 : (t226 != t212) = false := bne_eq_false_iff_eq.mpr c36
                    clear c36
                    have H' := Aside0.mk H
                    clear H
                    go_wp2
                    repeat (go_quiet (fail); try go_wp2)
                    go_meet
                    case rel => exact ⟨_, ((t228 != t212)), (by first | rfl | (simp; done) | (simp [*]; done)), H', ⟨by have := HJ1.out; first | omega | exact Nat.le_refl _⟩, ⟨by (with_reducible repeat (first | apply Kd.R_alloc | apply Kd.R_drewN | apply Kd.R_drew)); exact HO204.out⟩, ⟨by (with_reducible repeat (first | apply Kd.R_alloc | apply Kd.R_drewN | apply Kd.R_drew)); exact HO224.out⟩, ⟨by (with_reducible repeat (first | apply Kd.R_alloc | apply Kd.R_drewN | apply Kd.R_drew)); exact HO230.out⟩, ⟨by repeat (first | (with_reducible first | exact HB.out | apply below_alloc | apply pw_below_drewN | apply below_drew1) | exact HB.out)⟩⟩
                  · rw [if_neg c36] at H
                    have c36b0 : (t226 == t212) = false := beq_eq_false_iff_ne.mpr c36
                    have c36b1 : (t226 != t212) = true := bne_iff_ne.mpr c36
                    have H' := Aside0.mk H
                    clear H
                    go_wp2
                    repeat (go_quiet (fail); try go_wp2)
                    go_meet
                    case rel => exact ⟨_, (true), (by first | rfl | (simp; done) | (simp [*]; done)), H', ⟨by have := HJ1.out; first | omega | exact Nat.le_refl _⟩, ⟨by (with_reducible repeat (first | apply Kd.R_alloc | apply Kd.R_drewN | apply Kd.R_drew)); exact HO204.out⟩, ⟨by (with_reducible repeat (first | apply Kd.R_alloc | apply Kd.R_drewN | apply Kd.R_drew)); exact HO224.out⟩, ⟨by (with_reducible repeat (first | apply Kd.R_alloc | apply Kd.R_drewN | apply Kd.R_drew)); exact HO230.out⟩, ⟨by repeat (first | (with_reducible first | exact HB.out | apply below_alloc | apply pw_below_drewN | apply below_drew1) | exact HB.out)⟩⟩
                · rw [if_neg c35] at H
                  have c35b0 : (t212 == t214) = false := beq_eq_false_iff_ne.mpr c35
                  have c35b1 : (t212 != t214) = true := bne_iff_ne.mpr c35
                  have H' := Aside0.mk H
                  clear H
                  go_wp2
                  repeat (go_quiet (fail); try go_wp2)
                  go_meet
                  case rel => exact ⟨_, (true), (by first | rfl | (simp; done) | (simp [*]; done)), H', ⟨by have := HJ1.out; first | omega | exact Nat.le_refl _⟩, ⟨by (with_reducible repeat (first | apply Kd.R_alloc | apply Kd.R_drewN | apply Kd.R_drew)); exact HO204.out⟩, ⟨by (with_reducible repeat (first | apply Kd.R_alloc | apply Kd.R_drewN | apply Kd.R_drew)); exact HO224.out⟩, ⟨by (with_reducible repeat (first | apply Kd.R_alloc | apply Kd.R_drewN | apply Kd.R_drew)); exact HO230.out⟩, ⟨by repeat (first | (with_reducible first | exact HB.out | apply below_alloc | apply pw_below_drewN | apply below_drew1) | exact HB.out)⟩⟩
              · rw [if_neg c34] at H
                have c34b0 : (t211 == t213) = false := beq_eq_false_iff_ne.mpr c34
                have c34b1 : (t211 != t213) = true := bne_iff_ne.mpr c34
                (first | rw [c34b0] | (simp only [i64_w, i32_w]; rw [c34b0]) | skip)
                have H' := Aside0.mk H
                clear H
                go_wp2
                repeat (go_quiet (fail); try go_wp2)
                go_meet
                case rel => exact ⟨_, (true), (by first | rfl | (simp; done) | (simp [*]; done)), H', ⟨by have := HJ1.out; first | omega | exact Nat.le_refl _⟩, ⟨by (with_reducible repeat (first | apply Kd.R_alloc | apply Kd.R_drewN | apply Kd.R_drew)); exact HO204.out⟩, ⟨by (with_reducible repeat (first | apply Kd.R_alloc | apply Kd.R_drewN | apply Kd.R_drew)); exact HO224.out⟩, ⟨by (with_reducible repeat (first | apply Kd.R_alloc | apply Kd.R_drewN | apply Kd.R_drew)); exact HO230.out⟩, ⟨by repeat (first | (with_reducible first | exact HB.out | apply below_alloc | apply pw_below_drewN | apply below_drew1) | exact HB.out)⟩⟩
            case rest =>
              clear HC18
              try clear c1
              try clear p2
              try clear c3
              try clear c4
              try clear c7
              try clear c11
              try clear c12
              try clear c14
              try clear c34
              try clear c34b0
              try clear c34b1
              try clear c35
              try clear c35b0
              try clear c35b1
              try clear c36
              try clear c36b0
              try clear c36b1
              try clear p2
              obtain ⟨kq, x73_17, rfl, HA, HJ17, HO_3, HO_8, HO_12, HB⟩ := hcut
              cases kq with
              | zero => exact absurd HA.out (by simp [tamislaw23_EmitTells.j1])
              | succ kj17 =>
                have H := HA.out
                clear HA
                simp only [tamislaw23_EmitTells.j1] at H
                by_cases c37 : x73_17 = true
                · subst c37
                  have H1 : (some false) = some r := by rw [if_pos rfl] at H; exact H
                  clear H
                  have H := H1
                  clear H1
                  obtain rfl := Option.some.inj H
                  go_wp2
                  repeat (go_quiet (fail); try go_wp2)
                  go_ret
                  exact ⟨by first | rfl | (simp [errW_none, errW_some] <;> rfl) | (simp [*, errW_none, errW_some] <;> rfl), by repeat (first | (with_reducible first | exact HB.out | apply below_alloc | apply pw_below_drewN | apply below_drew1) | exact HB.out)⟩
                · replace c37 := Bool.eq_false_iff.mpr c37
                  subst c37
                  have H1 : (if t214 = 0 then ((tamisref23_Emit.f kj17 t202).bind fun t231 => ((tamisref23_Long.f kj17 t202).bind fun t234 => (if t225 = (t231.length : Int) then (tamislaw23_EmitTells.j2 kj17 t221 t222 t227 t231 t234 ((t227.length : Int) != (t234.length : Int))) else (tamislaw23_EmitTells.j2 kj17 t221 t222 t227 t231 t234 true)))) else (if t222 = t212 then (if (t221.length : Int) = 0 then (if t225 = 0 then (some ((t227.length : Int) == 0)) else (some false)) else (some false)) else (some false))) = some r := by rw [if_neg (show ¬ (false = true) by decide)] at H; exact H
                  clear H
                  have H := H1
                  clear H1
                  by_cases c38 : t214 = 0
                  · rw [if_pos c38] at H
                    have c38b0 : (t214 == 0) = true := beq_iff_eq.mpr c38
                    have c38b1 : (t214 != 0) = false := bne_eq_false_iff_eq.mpr c38
                    clear c38
                    replace H := Option.bind_eq_some_iff.mp H
                    obtain ⟨t231, A390, H⟩ := H
                    replace H : ((tamisref23_Long.f kj17 t202).bind fun t234 => (if t225 = (t231.length : Int) then (tamislaw23_EmitTells.j2 kj17 t221 t222 t227 t231 t234 ((t227.length : Int) != (t234.length : Int))) else (tamislaw23_EmitTells.j2 kj17 t221 t222 t227 t231 t234 true))) = some r := H
                    have A39 := Aside0.mk A390
                    clear A390
                    replace H := Option.bind_eq_some_iff.mp H
                    obtain ⟨t234, A400, H⟩ := H
                    replace H : (if t225 = (t231.length : Int) then (tamislaw23_EmitTells.j2 kj17 t221 t222 t227 t231 t234 ((t227.length : Int) != (t234.length : Int))) else (tamislaw23_EmitTells.j2 kj17 t221 t222 t227 t231 t234 true)) = some r := H
                    have A40 := Aside0.mk A400
                    clear A400
                    have HC41 := Aside0.mk H
                    clear H
                    go_upto_region 14 with (first | (go_at_call 54; (with_reducible refine (tamisref23_Emit.calls kj17 _ _ t202 t231 _ ?side1 ?side2 A39.out).mono ?_); (case side1 => repeat (first | exact (Kd.R_reads' HO_3.out).2.2 | (with_reducible refine Kd.C_alloc ?_ _) | (with_reducible refine Kd.C_drewN ?_ _) | (with_reducible refine Kd.C_drew ?_))); (case side2 => exact (Kd.R_reads' HO_3.out).2.1); rintro e w42 ⟨v232, rfl, ho0, hb⟩; have n0_ := Aside0.mk (Kd.R_below (by (with_reducible repeat (first | apply Kd.R_alloc | apply Kd.R_drewN | apply Kd.R_drew)); exact HO_3.out) hb); have n1_ := Aside0.mk (Kd.R_elder' (by (with_reducible repeat (first | apply Kd.R_alloc | apply Kd.R_drewN | apply Kd.R_drew)); exact HO_8.out) (Kd.R_base ho0) hb); have n2_ := Aside0.mk (Kd.R_below (by (with_reducible repeat (first | apply Kd.R_alloc | apply Kd.R_drewN | apply Kd.R_drew)); exact HO_12.out) hb); have n3_ := Aside0.mk (Kd.R_lower (Kd.R_new' ho0 (Kd.R_lt (by (with_reducible repeat (first | apply Kd.R_alloc | apply Kd.R_drewN | apply Kd.R_drew)); exact HO_8.out))) (below_size (by repeat (first | (with_reducible first | exact HB.out | apply below_alloc | apply pw_below_drewN | apply below_drew1) | exact HB.out)))); have n4_ := Aside0.mk (below_step (by repeat (first | (with_reducible first | exact HB.out | apply below_alloc | apply pw_below_drewN | apply below_drew1) | exact HB.out)) hb); clear HO_3; clear HO_8; clear HO_12; clear HB; have HO_3 := n0_; have HO_8 := n1_; have HO_12 := n2_; have HO233 := n3_; have HB := n4_; clear n0_ n1_ n2_ n3_ n4_; (try clear hb); (try clear hb2); (try clear hk); (try clear hi); (try clear ho0)) | (go_at_call 55; (with_reducible refine (tamisref23_Long.calls kj17 _ _ t202 t234 _ ?side1 ?side2 A40.out).mono ?_); (case side1 => repeat (first | exact (Kd.R_reads' HO_3.out).2.2 | (with_reducible refine Kd.C_alloc ?_ _) | (with_reducible refine Kd.C_drewN ?_ _) | (with_reducible refine Kd.C_drew ?_))); (case side2 => exact (Kd.R_reads' HO_3.out).2.1); rintro e w43 ⟨v235, rfl, ho0, hb⟩; have n0_ := Aside0.mk (Kd.R_below (by (with_reducible repeat (first | apply Kd.R_alloc | apply Kd.R_drewN | apply Kd.R_drew)); exact HO_3.out) hb); have n1_ := Aside0.mk (Kd.R_below (by (with_reducible repeat (first | apply Kd.R_alloc | apply Kd.R_drewN | apply Kd.R_drew)); exact HO_8.out) hb); have n2_ := Aside0.mk (Kd.R_elder' (by (with_reducible repeat (first | apply Kd.R_alloc | apply Kd.R_drewN | apply Kd.R_drew)); exact HO_12.out) (Kd.R_base ho0) hb); have n3_ := Aside0.mk (Kd.R_below (by (with_reducible repeat (first | apply Kd.R_alloc | apply Kd.R_drewN | apply Kd.R_drew)); exact HO233.out) hb); have n4_ := Aside0.mk (Kd.R_lower (Kd.R_new' ho0 (Kd.R_lt (by (with_reducible repeat (first | apply Kd.R_alloc | apply Kd.R_drewN | apply Kd.R_drew)); exact HO_12.out))) (below_size (by repeat (first | (with_reducible first | exact HB.out | apply below_alloc | apply pw_below_drewN | apply below_drew1) | exact HB.out)))); have n5_ := Aside0.mk (below_step (by repeat (first | (with_reducible first | exact HB.out | apply below_alloc | apply pw_below_drewN | apply below_drew1) | exact HB.out)) hb); clear HO_3; clear HO_8; clear HO_12; clear HO233; clear HB; have HO_3 := n0_; have HO_8 := n1_; have HO_12 := n2_; have HO233 := n3_; have HO236 := n4_; have HB := n5_; clear n0_ n1_ n2_ n3_ n4_ n5_; (try clear hb); (try clear hb2); (try clear hk); (try clear hi); (try clear ho0)))
                    repeat (go_quiet (first | (go_at_call 54; (with_reducible refine (tamisref23_Emit.calls kj17 _ _ t202 t231 _ ?side1 ?side2 A39.out).mono ?_); (case side1 => repeat (first | exact (Kd.R_reads' HO_3.out).2.2 | (with_reducible refine Kd.C_alloc ?_ _) | (with_reducible refine Kd.C_drewN ?_ _) | (with_reducible refine Kd.C_drew ?_))); (case side2 => exact (Kd.R_reads' HO_3.out).2.1); rintro e w42 ⟨v232, rfl, ho0, hb⟩; have n0_ := Aside0.mk (Kd.R_below (by (with_reducible repeat (first | apply Kd.R_alloc | apply Kd.R_drewN | apply Kd.R_drew)); exact HO_3.out) hb); have n1_ := Aside0.mk (Kd.R_elder' (by (with_reducible repeat (first | apply Kd.R_alloc | apply Kd.R_drewN | apply Kd.R_drew)); exact HO_8.out) (Kd.R_base ho0) hb); have n2_ := Aside0.mk (Kd.R_below (by (with_reducible repeat (first | apply Kd.R_alloc | apply Kd.R_drewN | apply Kd.R_drew)); exact HO_12.out) hb); have n3_ := Aside0.mk (Kd.R_lower (Kd.R_new' ho0 (Kd.R_lt (by (with_reducible repeat (first | apply Kd.R_alloc | apply Kd.R_drewN | apply Kd.R_drew)); exact HO_8.out))) (below_size (by repeat (first | (with_reducible first | exact HB.out | apply below_alloc | apply pw_below_drewN | apply below_drew1) | exact HB.out)))); have n4_ := Aside0.mk (below_step (by repeat (first | (with_reducible first | exact HB.out | apply below_alloc | apply pw_below_drewN | apply below_drew1) | exact HB.out)) hb); clear HO_3; clear HO_8; clear HO_12; clear HB; have HO_3 := n0_; have HO_8 := n1_; have HO_12 := n2_; have HO233 := n3_; have HB := n4_; clear n0_ n1_ n2_ n3_ n4_; (try clear hb); (try clear hb2); (try clear hk); (try clear hi); (try clear ho0)) | (go_at_call 55; (with_reducible refine (tamisref23_Long.calls kj17 _ _ t202 t234 _ ?side1 ?side2 A40.out).mono ?_); (case side1 => repeat (first | exact (Kd.R_reads' HO_3.out).2.2 | (with_reducible refine Kd.C_alloc ?_ _) | (with_reducible refine Kd.C_drewN ?_ _) | (with_reducible refine Kd.C_drew ?_))); (case side2 => exact (Kd.R_reads' HO_3.out).2.1); rintro e w43 ⟨v235, rfl, ho0, hb⟩; have n0_ := Aside0.mk (Kd.R_below (by (with_reducible repeat (first | apply Kd.R_alloc | apply Kd.R_drewN | apply Kd.R_drew)); exact HO_3.out) hb); have n1_ := Aside0.mk (Kd.R_below (by (with_reducible repeat (first | apply Kd.R_alloc | apply Kd.R_drewN | apply Kd.R_drew)); exact HO_8.out) hb); have n2_ := Aside0.mk (Kd.R_elder' (by (with_reducible repeat (first | apply Kd.R_alloc | apply Kd.R_drewN | apply Kd.R_drew)); exact HO_12.out) (Kd.R_base ho0) hb); have n3_ := Aside0.mk (Kd.R_below (by (with_reducible repeat (first | apply Kd.R_alloc | apply Kd.R_drewN | apply Kd.R_drew)); exact HO233.out) hb); have n4_ := Aside0.mk (Kd.R_lower (Kd.R_new' ho0 (Kd.R_lt (by (with_reducible repeat (first | apply Kd.R_alloc | apply Kd.R_drewN | apply Kd.R_drew)); exact HO_12.out))) (below_size (by repeat (first | (with_reducible first | exact HB.out | apply below_alloc | apply pw_below_drewN | apply below_drew1) | exact HB.out)))); have n5_ := Aside0.mk (below_step (by repeat (first | (with_reducible first | exact HB.out | apply below_alloc | apply pw_below_drewN | apply below_drew1) | exact HB.out)) hb); clear HO_3; clear HO_8; clear HO_12; clear HO233; clear HB; have HO_3 := n0_; have HO_8 := n1_; have HO_12 := n2_; have HO233 := n3_; have HO236 := n4_; have HB := n5_; clear n0_ n1_ n2_ n3_ n4_ n5_; (try clear hb); (try clear hb2); (try clear hk); (try clear hi); (try clear ho0))); go_upto_region 14 with (first | (go_at_call 54; (with_reducible refine (tamisref23_Emit.calls kj17 _ _ t202 t231 _ ?side1 ?side2 A39.out).mono ?_); (case side1 => repeat (first | exact (Kd.R_reads' HO_3.out).2.2 | (with_reducible refine Kd.C_alloc ?_ _) | (with_reducible refine Kd.C_drewN ?_ _) | (with_reducible refine Kd.C_drew ?_))); (case side2 => exact (Kd.R_reads' HO_3.out).2.1); rintro e w42 ⟨v232, rfl, ho0, hb⟩; have n0_ := Aside0.mk (Kd.R_below (by (with_reducible repeat (first | apply Kd.R_alloc | apply Kd.R_drewN | apply Kd.R_drew)); exact HO_3.out) hb); have n1_ := Aside0.mk (Kd.R_elder' (by (with_reducible repeat (first | apply Kd.R_alloc | apply Kd.R_drewN | apply Kd.R_drew)); exact HO_8.out) (Kd.R_base ho0) hb); have n2_ := Aside0.mk (Kd.R_below (by (with_reducible repeat (first | apply Kd.R_alloc | apply Kd.R_drewN | apply Kd.R_drew)); exact HO_12.out) hb); have n3_ := Aside0.mk (Kd.R_lower (Kd.R_new' ho0 (Kd.R_lt (by (with_reducible repeat (first | apply Kd.R_alloc | apply Kd.R_drewN | apply Kd.R_drew)); exact HO_8.out))) (below_size (by repeat (first | (with_reducible first | exact HB.out | apply below_alloc | apply pw_below_drewN | apply below_drew1) | exact HB.out)))); have n4_ := Aside0.mk (below_step (by repeat (first | (with_reducible first | exact HB.out | apply below_alloc | apply pw_below_drewN | apply below_drew1) | exact HB.out)) hb); clear HO_3; clear HO_8; clear HO_12; clear HB; have HO_3 := n0_; have HO_8 := n1_; have HO_12 := n2_; have HO233 := n3_; have HB := n4_; clear n0_ n1_ n2_ n3_ n4_; (try clear hb); (try clear hb2); (try clear hk); (try clear hi); (try clear ho0)) | (go_at_call 55; (with_reducible refine (tamisref23_Long.calls kj17 _ _ t202 t234 _ ?side1 ?side2 A40.out).mono ?_); (case side1 => repeat (first | exact (Kd.R_reads' HO_3.out).2.2 | (with_reducible refine Kd.C_alloc ?_ _) | (with_reducible refine Kd.C_drewN ?_ _) | (with_reducible refine Kd.C_drew ?_))); (case side2 => exact (Kd.R_reads' HO_3.out).2.1); rintro e w43 ⟨v235, rfl, ho0, hb⟩; have n0_ := Aside0.mk (Kd.R_below (by (with_reducible repeat (first | apply Kd.R_alloc | apply Kd.R_drewN | apply Kd.R_drew)); exact HO_3.out) hb); have n1_ := Aside0.mk (Kd.R_below (by (with_reducible repeat (first | apply Kd.R_alloc | apply Kd.R_drewN | apply Kd.R_drew)); exact HO_8.out) hb); have n2_ := Aside0.mk (Kd.R_elder' (by (with_reducible repeat (first | apply Kd.R_alloc | apply Kd.R_drewN | apply Kd.R_drew)); exact HO_12.out) (Kd.R_base ho0) hb); have n3_ := Aside0.mk (Kd.R_below (by (with_reducible repeat (first | apply Kd.R_alloc | apply Kd.R_drewN | apply Kd.R_drew)); exact HO233.out) hb); have n4_ := Aside0.mk (Kd.R_lower (Kd.R_new' ho0 (Kd.R_lt (by (with_reducible repeat (first | apply Kd.R_alloc | apply Kd.R_drewN | apply Kd.R_drew)); exact HO_12.out))) (below_size (by repeat (first | (with_reducible first | exact HB.out | apply below_alloc | apply pw_below_drewN | apply below_drew1) | exact HB.out)))); have n5_ := Aside0.mk (below_step (by repeat (first | (with_reducible first | exact HB.out | apply below_alloc | apply pw_below_drewN | apply below_drew1) | exact HB.out)) hb); clear HO_3; clear HO_8; clear HO_12; clear HO233; clear HB; have HO_3 := n0_; have HO_8 := n1_; have HO_12 := n2_; have HO233 := n3_; have HO236 := n4_; have HB := n5_; clear n0_ n1_ n2_ n3_ n4_ n5_; (try clear hb); (try clear hb2); (try clear hk); (try clear hi); (try clear ho0))))
                    (try simp only [Act.put, List.setIfInBounds_toArray, List.set_cons_zero, List.set_cons_succ])
                    go_cut [107] (fun v107 wc => ∃ (kq : Nat) (x107_40 : Bool), v107 = .bool x107_40 ∧ Aside0 (tamislaw23_EmitTells.j2 kq t221 t222 t227 t231 t234 x107_40 = some r) ∧ Aside0 (kq ≤ kj17) ∧ Aside0 (Kd.R k56 56 wc w.heap.size (fun k_ => some k_ ≠ (v232 : Value).ownBlock) v223 t221) ∧ Aside0 (Kd.R Kd.bool 4 wc w.heap.size (fun k_ => some k_ ≠ (v235 : Value).ownBlock) v229 t227) ∧ Aside0 (Kd.R k56 56 wc w.heap.size (fun k_ => some k_ ≠ (v223 : Value).ownBlock) v232 t231) ∧ Aside0 (Kd.R Kd.bool 4 wc w.heap.size (fun k_ => some k_ ≠ (v229 : Value).ownBlock) v235 t234) ∧ Aside0 (Below w.heap.size w wc))
                    case first =>
                      have H := HC41.out
                      clear HC41
                      by_cases c44 : t225 = (t231.length : Int)
                      · rw [if_pos c44] at H
                        have c44b0 : (t225 == (t231.length : Int)) = true := beq_iff_eq.mpr c44
                        have c44b1 : (t225 != (t231.length : Int)) = false := bne_eq_false_iff_eq.mpr c44
                        clear c44
                        (first | rw [c44b0] | (simp only [i64_w, i32_w]; rw [c44b0]) | skip)
                        have H' := Aside0.mk H
                        clear H
                        obtain ⟨Ao45, co45, eo45⟩ := Kd.R_slice HO233.out
                        subst eo45
                        obtain ⟨Ao46, co46, eo46⟩ := Kd.R_slice HO_12.out
                        subst eo46
                        obtain ⟨Ao47, co47, eo47⟩ := Kd.R_slice HO236.out
                        subst eo47
                        go_wp2
                        repeat (go_quiet (fail); try go_wp2)
                        go_meet
                        case rel => exact ⟨_, (((t227.length : Int) != (t234.length : Int))), (by first | rfl | (simp; done) | (simp [*]; done)), H', ⟨by have := HJ1.out; have := HJ17.out; first | omega | exact Nat.le_refl _⟩, ⟨by (with_reducible repeat (first | apply Kd.R_alloc | apply Kd.R_drewN | apply Kd.R_drew)); exact Kd.R_mono HO_8.out (fun _ hk => hk.2)⟩, ⟨by (with_reducible repeat (first | apply Kd.R_alloc | apply Kd.R_drewN | apply Kd.R_drew)); exact Kd.R_mono HO_12.out (fun _ hk => hk.2)⟩, ⟨by (with_reducible repeat (first | apply Kd.R_alloc | apply Kd.R_drewN | apply Kd.R_drew)); exact Kd.R_mono HO233.out (fun _ hk => hk.2)⟩, ⟨by (with_reducible repeat (first | apply Kd.R_alloc | apply Kd.R_drewN | apply Kd.R_drew)); exact Kd.R_mono HO236.out (fun _ hk => hk.2)⟩, ⟨by repeat (first | (with_reducible first | exact HB.out | apply below_alloc | apply pw_below_drewN | apply below_drew1) | exact HB.out)⟩⟩
                      · rw [if_neg c44] at H
                        have c44b0 : (t225 == (t231.length : Int)) = false := beq_eq_false_iff_ne.mpr c44
                        have c44b1 : (t225 != (t231.length : Int)) = true := bne_iff_ne.mpr c44
                        (first | rw [c44b0] | (simp only [i64_w, i32_w]; rw [c44b0]) | skip)
                        have H' := Aside0.mk H
                        clear H
                        obtain ⟨Ao48, co48, eo48⟩ := Kd.R_slice HO233.out
                        subst eo48
                        go_wp2
                        repeat (go_quiet (fail); try go_wp2)
                        go_meet
                        case rel => exact ⟨_, (true), (by first | rfl | (simp; done) | (simp [*]; done)), H', ⟨by have := HJ1.out; have := HJ17.out; first | omega | exact Nat.le_refl _⟩, ⟨by (with_reducible repeat (first | apply Kd.R_alloc | apply Kd.R_drewN | apply Kd.R_drew)); exact Kd.R_mono HO_8.out (fun _ hk => hk.2)⟩, ⟨by (with_reducible repeat (first | apply Kd.R_alloc | apply Kd.R_drewN | apply Kd.R_drew)); exact Kd.R_mono HO_12.out (fun _ hk => hk.2)⟩, ⟨by (with_reducible repeat (first | apply Kd.R_alloc | apply Kd.R_drewN | apply Kd.R_drew)); exact Kd.R_mono HO233.out (fun _ hk => hk.2)⟩, ⟨by (with_reducible repeat (first | apply Kd.R_alloc | apply Kd.R_drewN | apply Kd.R_drew)); exact Kd.R_mono HO236.out (fun _ hk => hk.2)⟩, ⟨by repeat (first | (with_reducible first | exact HB.out | apply below_alloc | apply pw_below_drewN | apply below_drew1) | exact HB.out)⟩⟩
                    case rest =>
                      clear HC41
                      try clear c1
                      try clear p2
                      try clear c3
                      try clear c4
                      try clear c7
                      try clear c11
                      try clear c12
                      try clear c14
                      try clear c34
                      try clear c34b0
                      try clear c34b1
                      try clear c35
                      try clear c35b0
                      try clear c35b1
                      try clear c36
                      try clear c36b0
                      try clear c36b1
                      try clear c37
                      try clear c38
                      try clear c38b0
                      try clear c38b1
                      try clear c44
                      try clear c44b0
                      try clear c44b1
                      try clear p2
                      obtain ⟨kq, x107_40, rfl, HA, HJ40, HO_8, HO_12, HO_14, HO_15, HB⟩ := hcut
                      cases kq with
                      | zero => exact absurd HA.out (by simp [tamislaw23_EmitTells.j2])
                      | succ kj40 =>
                        have H := HA.out
                        clear HA
                        simp only [tamislaw23_EmitTells.j2] at H
                        by_cases c49 : x107_40 = true
                        · subst c49
                          have H1 : (some false) = some r := by rw [if_pos rfl] at H; exact H
                          clear H
                          have H := H1
                          clear H1
                          obtain rfl := Option.some.inj H
                          go_wp2
                          repeat (go_quiet (fail); try go_wp2)
                          go_ret
                          exact ⟨by first | rfl | (simp [errW_none, errW_some] <;> rfl) | (simp [*, errW_none, errW_some] <;> rfl), by repeat (first | (with_reducible first | exact HB.out | apply below_alloc | apply pw_below_drewN | apply below_drew1) | exact HB.out)⟩
                        · replace c49 := Bool.eq_false_iff.mpr c49
                          subst c49
                          have H1 : (tamislaw23_EmitTells.l0 kj40 t221 t222 t227 t231 t234 (t227.length : Int) 0) = some r := by rw [if_neg (show ¬ (false = true) by decide)] at H; exact H
                          clear H
                          have H := H1
                          clear H1
                          have H' := Aside0.mk H
                          clear H
                          obtain ⟨Ao50, co50, eo50⟩ := Kd.R_slice HO_12.out
                          subst eo50
                          go_wp2
                          repeat (go_quiet (fail); try go_wp2)
                          go_loopg [110] kj40 (fun kq v110 w' => ∃ (x110_4 : Int), v110 = .int .i64 x110_4 ∧ Aside0 (tamislaw23_EmitTells.l0 kq t221 t222 t227 t231 t234 (t227.length : Int) x110_4 = some r) ∧ Aside0 (kq ≤ kj40) ∧ Aside0 (Kd.R k56 56 w' w.heap.size (fun k_ => some k_ ≠ (v232 : Value).ownBlock) v223 t221) ∧ Aside0 (Kd.R Kd.bool 4 w' w.heap.size (fun k_ => some k_ ≠ (v235 : Value).ownBlock) (.slice Ao50 t227.length co50) t227) ∧ Aside0 (Kd.R k56 56 w' w.heap.size (fun k_ => some k_ ≠ (v223 : Value).ownBlock) v232 t231) ∧ Aside0 (Kd.R Kd.bool 4 w' w.heap.size (fun k_ => some k_ ≠ ((.slice Ao50 t227.length co50) : Value).ownBlock) v235 t234) ∧ Aside0 (Below w.heap.size w w'))
                          case atStart => exact ⟨(0), (by first | rfl | (simp; done) | (simp [*]; done)), H', ⟨Nat.le_refl _⟩, ⟨by (with_reducible repeat (first | apply Kd.R_alloc | apply Kd.R_drewN | apply Kd.R_drew)); exact HO_8.out⟩, ⟨by (with_reducible repeat (first | apply Kd.R_alloc | apply Kd.R_drewN | apply Kd.R_drew)); exact HO_12.out⟩, ⟨by (with_reducible repeat (first | apply Kd.R_alloc | apply Kd.R_drewN | apply Kd.R_drew)); exact HO_14.out⟩, ⟨by (with_reducible repeat (first | apply Kd.R_alloc | apply Kd.R_drewN | apply Kd.R_drew)); exact HO_15.out⟩, ⟨by repeat (first | (with_reducible first | exact HB.out | apply below_alloc | apply pw_below_drewN | apply below_drew1) | exact HB.out)⟩⟩
                          case round =>
                            clear H'
                            try clear c1
                            try clear p2
                            try clear c3
                            try clear c4
                            try clear c7
                            try clear c11
                            try clear c12
                            try clear c14
                            try clear c34
                            try clear c34b0
                            try clear c34b1
                            try clear c35
                            try clear c35b0
                            try clear c35b1
                            try clear c36
                            try clear c36b0
                            try clear c36b1
                            try clear c37
                            try clear c38
                            try clear c38b0
                            try clear c38b1
                            try clear c44
                            try clear c44b0
                            try clear c44b1
                            try clear c49
                            try clear p2
                            obtain ⟨x110_4, rfl, HA, HK4, HO_8, HO_12, HO_14, HO_15, HB⟩ := hrel
                            cases gk with
                            | zero => exact absurd HA.out (by simp [tamislaw23_EmitTells.l0])
                            | succ k4 =>
                              have H := HA.out
                              clear HA
                              simp only [tamislaw23_EmitTells.l0] at H
                              by_cases c51 : x110_4 < (t227.length : Int)
                              · rw [if_pos c51] at H
                                have c51b0 : decide (x110_4 < (t227.length : Int)) = true := decide_eq_true c51
                                clear c51
                                by_cases c52 : 0 ≤ x110_4
                                · rw [if_pos c52] at H
                                  have c52b0 : decide (0 ≤ x110_4) = true := decide_eq_true c52
                                  clear c52
                                  by_cases c53 : x110_4 < (t227.length : Int)
                                  · rw [if_pos c53] at H
                                    have c53b0 : decide (x110_4 < (t227.length : Int)) = true := decide_eq_true c53
                                    clear c53
                                    by_cases c54 : x110_4 < (t234.length : Int)
                                    · rw [if_pos c54] at H
                                      have c54b0 : decide (x110_4 < (t234.length : Int)) = true := decide_eq_true c54
                                      clear c54
                                      by_cases c55 : ((rdOf false t227 x110_4) != (rdOf false t234 x110_4)) = true
                                      · rw [if_pos c55] at H
                                        have c55b0 : ((rdOf false t227 x110_4) != (rdOf false t234 x110_4)) = true := c55
                                        (try (have c55b1 : decide ((rdOf false t227 x110_4) = (rdOf false t234 x110_4)) = false := by simpa using c55))
                                        (try (have c55b2 : ((rdOf false t227 x110_4) == (rdOf false t234 x110_4)) = false := by simpa using c55))
                                        (try (have c55b3 : ¬ ((rdOf false t227 x110_4) = (rdOf false t234 x110_4)) := by simpa using c55))
                                        clear c55
                                        obtain rfl := Option.some.inj H
                                        have p237 : 0 ≤ (x110_4 : Int) := of_decide_eq_true (by first | (with_reducible assumption) | assumption)
                                        have q237 : x110_4 < (t227.length : Int) := of_decide_eq_true (by first | (with_reducible assumption) | assumption)
                                        obtain ⟨ad237, e237, hx237_0⟩ := Kd.at_bool (Kd.R_reads' HO_12.out).2.2 x110_4 p237 q237
                                        cases e237
                                        replace p237 := eq_true p237
                                        replace q237 := eq_true q237
                                        obtain ⟨Ao56, co56, eo56⟩ := Kd.R_slice HO_15.out
                                        subst eo56
                                        have p238 : 0 ≤ (x110_4 : Int) := of_decide_eq_true (by first | (with_reducible assumption) | assumption)
                                        have q238 : x110_4 < (t234.length : Int) := of_decide_eq_true (by first | (with_reducible assumption) | assumption)
                                        obtain ⟨ad238, e238, hx238_0⟩ := Kd.at_bool (Kd.R_reads' HO_15.out).2.2 x110_4 p238 q238
                                        cases e238
                                        replace p238 := eq_true p238
                                        replace q238 := eq_true q238
                                        go_wp2
                                        repeat (go_quiet (fail); try go_wp2)
                                        go_ret
                                        exact ⟨by first | rfl | (simp [errW_none, errW_some] <;> rfl) | (simp [*, errW_none, errW_some] <;> rfl), by repeat (first | (with_reducible first | exact HB.out | apply below_alloc | apply pw_below_drewN | apply below_drew1) | exact HB.out)⟩
                                      · rw [if_neg c55] at H
                                        have c55b0 : ((rdOf false t227 x110_4) != (rdOf false t234 x110_4)) = false := by simpa using c55
                                        (try (have c55b1 : decide ((rdOf false t227 x110_4) = (rdOf false t234 x110_4)) = true := by simpa using c55))
                                        (try (have c55b2 : ((rdOf false t227 x110_4) == (rdOf false t234 x110_4)) = true := by simpa using c55))
                                        clear c55
                                        have H' := Aside0.mk H
                                        clear H
                                        have p237 : 0 ≤ (x110_4 : Int) := of_decide_eq_true (by first | (with_reducible assumption) | assumption)
                                        have q237 : x110_4 < (t227.length : Int) := of_decide_eq_true (by first | (with_reducible assumption) | assumption)
                                        obtain ⟨ad237, e237, hx237_0⟩ := Kd.at_bool (Kd.R_reads' HO_12.out).2.2 x110_4 p237 q237
                                        cases e237
                                        replace p237 := eq_true p237
                                        replace q237 := eq_true q237
                                        obtain ⟨Ao57, co57, eo57⟩ := Kd.R_slice HO_15.out
                                        subst eo57
                                        have p238 : 0 ≤ (x110_4 : Int) := of_decide_eq_true (by first | (with_reducible assumption) | assumption)
                                        have q238 : x110_4 < (t234.length : Int) := of_decide_eq_true (by first | (with_reducible assumption) | assumption)
                                        obtain ⟨ad238, e238, hx238_0⟩ := Kd.at_bool (Kd.R_reads' HO_15.out).2.2 x110_4 p238 q238
                                        cases e238
                                        replace p238 := eq_true p238
                                        replace q238 := eq_true q238
                                        go_wp2
                                        repeat (go_quiet (fail); try go_wp2)
                                        go_roundg k4
                                        case measure => have := HJ1.out; have := HJ17.out; have := HJ40.out; have := HK4.out; omega
                                        case rel => exact ⟨(wrap64 (x110_4 + 1)), (by first | rfl | (simp; done) | (simp [*]; done)), H', ⟨by have := HJ1.out; have := HJ17.out; have := HJ40.out; have := HK4.out; omega⟩, ⟨by (with_reducible repeat (first | apply Kd.R_alloc | apply Kd.R_drewN | apply Kd.R_drew)); exact HO_8.out⟩, ⟨by (with_reducible repeat (first | apply Kd.R_alloc | apply Kd.R_drewN | apply Kd.R_drew)); exact HO_12.out⟩, ⟨by (with_reducible repeat (first | apply Kd.R_alloc | apply Kd.R_drewN | apply Kd.R_drew)); exact HO_14.out⟩, ⟨by (with_reducible repeat (first | apply Kd.R_alloc | apply Kd.R_drewN | apply Kd.R_drew)); exact HO_15.out⟩, ⟨by repeat (first | (with_reducible first | exact HB.out | apply below_alloc | apply pw_below_drewN | apply below_drew1) | exact HB.out)⟩⟩
                                    · rw [if_neg c54] at H
                                      exact absurd H (by simp)
                                  · rw [if_neg c53] at H
                                    exact absurd H (by simp)
                                · rw [if_neg c52] at H
                                  exact absurd H (by simp)
                              · rw [if_neg c51] at H
                                have c51b0 : decide (x110_4 < (t227.length : Int)) = false := decide_eq_false c51
                                clear c51
                                by_cases c58 : (t231.length : Int) > 4096
                                · rw [if_pos c58] at H
                                  have c58b0 : decide (4096 < (t231.length : Int)) = true := decide_eq_true c58
                                  have c58b1 : decide (4096 < t231.length) = true := decide_eq_true (by omega)
                                  clear c58
                                  by_cases c59 : t222 = 14
                                  · rw [if_pos c59] at H
                                    have c59b0 : (t222 == 14) = true := beq_iff_eq.mpr c59
                                    have c59b1 : (t222 != 14) = false := bne_eq_false_iff_eq.mpr c59
                                    clear c59
                                    obtain rfl := Option.some.inj H
                                    obtain ⟨Ao60, co60, eo60⟩ := Kd.R_slice HO_14.out
                                    subst eo60
                                    obtain ⟨Ao61, co61, eo61⟩ := Kd.R_slice HO_8.out
                                    subst eo61
                                    go_wp2
                                    repeat (go_quiet (fail); try go_wp2)
                                    go_ret
                                    exact ⟨by first | rfl | (simp [errW_none, errW_some] <;> rfl) | (simp [*, errW_none, errW_some] <;> rfl), by repeat (first | (with_reducible first | exact HB.out | apply below_alloc | apply pw_below_drewN | apply below_drew1) | exact HB.out)⟩
                                  · rw [if_neg c59] at H
                                    have c59b0 : (t222 == 14) = false := beq_eq_false_iff_ne.mpr c59
                                    have c59b1 : (t222 != 14) = true := bne_iff_ne.mpr c59
                                    obtain rfl := Option.some.inj H
                                    obtain ⟨Ao62, co62, eo62⟩ := Kd.R_slice HO_14.out
                                    subst eo62
                                    go_wp2
                                    repeat (go_quiet (fail); try go_wp2)
                                    go_ret
                                    exact ⟨by first | rfl | (simp [errW_none, errW_some] <;> rfl) | (simp [*, errW_none, errW_some] <;> rfl), by repeat (first | (with_reducible first | exact HB.out | apply below_alloc | apply pw_below_drewN | apply below_drew1) | exact HB.out)⟩
                                · rw [if_neg c58] at H
                                  have c58b0 : decide (4096 < (t231.length : Int)) = false := decide_eq_false c58
                                  have c58b1 : decide (4096 < t231.length) = false := decide_eq_false (by omega)
                                  clear c58
                                  by_cases c63 : t222 = 0
                                  · rw [if_pos c63] at H
                                    have c63b0 : (t222 == 0) = true := beq_iff_eq.mpr c63
                                    have c63b1 : (t222 != 0) = false := bne_eq_false_iff_eq.mpr c63
                                    clear c63
                                    replace H := Option.bind_eq_some_iff.mp H
                                    obtain ⟨t239, A640, H⟩ := H
                                    replace H : (some t239) = some r := H
                                    have A64 := Aside0.mk A640
                                    clear A640
                                    obtain rfl := Option.some.inj H
                                    obtain ⟨Ao65, co65, eo65⟩ := Kd.R_slice HO_14.out
                                    subst eo65
                                    obtain ⟨Ao66, co66, eo66⟩ := Kd.R_slice HO_8.out
                                    subst eo66
                                    go_wp2_with (first | (go_at_call 56; (with_reducible refine (tamisref02_Same.calls k4 _ _ t221 _ _ t231 t239 _ ?side1 ?side2 ?side3 ?side4 A64.out).mono ?_); (case side1 => repeat (first | exact (Kd.R_reads' HO_8.out).2.2 | (with_reducible refine Kd.C_alloc ?_ _) | (with_reducible refine Kd.C_drewN ?_ _) | (with_reducible refine Kd.C_drew ?_))); (case side2 => exact (Kd.R_reads' HO_8.out).2.1); (case side3 => repeat (first | exact (Kd.R_reads' HO_14.out).2.2 | (with_reducible refine Kd.C_alloc ?_ _) | (with_reducible refine Kd.C_drewN ?_ _) | (with_reducible refine Kd.C_drew ?_))); (case side4 => exact (Kd.R_reads' HO_14.out).2.1); rintro e w' ⟨rfl, ⟨nd, rfl⟩⟩; (try first | exact ⟨rfl, _, World.drewN_drewN _ _ _⟩ | exact ⟨rfl, _, Eq.trans (World.drewN_drewN _ _ _) (congrArg (World.drewN _) (Nat.add_assoc _ _ _))⟩)))
                                    repeat (go_quiet (first | (go_at_call 56; (with_reducible refine (tamisref02_Same.calls k4 _ _ t221 _ _ t231 t239 _ ?side1 ?side2 ?side3 ?side4 A64.out).mono ?_); (case side1 => repeat (first | exact (Kd.R_reads' HO_8.out).2.2 | (with_reducible refine Kd.C_alloc ?_ _) | (with_reducible refine Kd.C_drewN ?_ _) | (with_reducible refine Kd.C_drew ?_))); (case side2 => exact (Kd.R_reads' HO_8.out).2.1); (case side3 => repeat (first | exact (Kd.R_reads' HO_14.out).2.2 | (with_reducible refine Kd.C_alloc ?_ _) | (with_reducible refine Kd.C_drewN ?_ _) | (with_reducible refine Kd.C_drew ?_))); (case side4 => exact (Kd.R_reads' HO_14.out).2.1); rintro e w' ⟨rfl, ⟨nd, rfl⟩⟩; (try first | exact ⟨rfl, _, World.drewN_drewN _ _ _⟩ | exact ⟨rfl, _, Eq.trans (World.drewN_drewN _ _ _) (congrArg (World.drewN _) (Nat.add_assoc _ _ _))⟩))); try go_wp2_with (first | (go_at_call 56; (with_reducible refine (tamisref02_Same.calls k4 _ _ t221 _ _ t231 t239 _ ?side1 ?side2 ?side3 ?side4 A64.out).mono ?_); (case side1 => repeat (first | exact (Kd.R_reads' HO_8.out).2.2 | (with_reducible refine Kd.C_alloc ?_ _) | (with_reducible refine Kd.C_drewN ?_ _) | (with_reducible refine Kd.C_drew ?_))); (case side2 => exact (Kd.R_reads' HO_8.out).2.1); (case side3 => repeat (first | exact (Kd.R_reads' HO_14.out).2.2 | (with_reducible refine Kd.C_alloc ?_ _) | (with_reducible refine Kd.C_drewN ?_ _) | (with_reducible refine Kd.C_drew ?_))); (case side4 => exact (Kd.R_reads' HO_14.out).2.1); rintro e w' ⟨rfl, ⟨nd, rfl⟩⟩; (try first | exact ⟨rfl, _, World.drewN_drewN _ _ _⟩ | exact ⟨rfl, _, Eq.trans (World.drewN_drewN _ _ _) (congrArg (World.drewN _) (Nat.add_assoc _ _ _))⟩))))
                                    go_ret
                                    exact ⟨by first | rfl | (simp [errW_none, errW_some] <;> rfl) | (simp [*, errW_none, errW_some] <;> rfl), by repeat (first | (with_reducible first | exact HB.out | apply below_alloc | apply pw_below_drewN | apply below_drew1) | exact HB.out)⟩
                                  · rw [if_neg c63] at H
                                    have c63b0 : (t222 == 0) = false := beq_eq_false_iff_ne.mpr c63
                                    have c63b1 : (t222 != 0) = true := bne_iff_ne.mpr c63
                                    obtain rfl := Option.some.inj H
                                    obtain ⟨Ao67, co67, eo67⟩ := Kd.R_slice HO_14.out
                                    subst eo67
                                    go_wp2
                                    repeat (go_quiet (fail); try go_wp2)
                                    go_ret
                                    exact ⟨by first | rfl | (simp [errW_none, errW_some] <;> rfl) | (simp [*, errW_none, errW_some] <;> rfl), by repeat (first | (with_reducible first | exact HB.out | apply below_alloc | apply pw_below_drewN | apply below_drew1) | exact HB.out)⟩
                  · rw [if_neg c38] at H
                    have c38b0 : (t214 == 0) = false := beq_eq_false_iff_ne.mpr c38
                    have c38b1 : (t214 != 0) = true := bne_iff_ne.mpr c38
                    by_cases c68 : t222 = t212
                    · rw [if_pos c68] at H
                      have c68b0 : (t222 == t212) = true := beq_iff_eq.mpr c68
                      have c68b1 : (t222 != t212) = false := bne_eq_false_iff_eq.mpr c68
                      clear c68
                      by_cases c69 : (t221.length : Int) = 0
                      · rw [if_pos c69] at H
                        have c69b0 : ((t221.length : Int) == 0) = true := beq_iff_eq.mpr c69
                        have c69b1 : ((t221.length : Int) != 0) = false := bne_eq_false_iff_eq.mpr c69
                        clear c69
                        by_cases c70 : t225 = 0
                        · rw [if_pos c70] at H
                          have c70b0 : (t225 == 0) = true := beq_iff_eq.mpr c70
                          have c70b1 : (t225 != 0) = false := bne_eq_false_iff_eq.mpr c70
                          clear c70
                          obtain rfl := Option.some.inj H
                          obtain ⟨Ao71, co71, eo71⟩ := Kd.R_slice HO_8.out
                          subst eo71
                          obtain ⟨Ao72, co72, eo72⟩ := Kd.R_slice HO_12.out
                          subst eo72
                          go_wp2
                          repeat (go_quiet (fail); try go_wp2)
                          go_ret
                          exact ⟨by first | rfl | (simp [errW_none, errW_some] <;> rfl) | (simp [*, errW_none, errW_some] <;> rfl), by repeat (first | (with_reducible first | exact HB.out | apply below_alloc | apply pw_below_drewN | apply below_drew1) | exact HB.out)⟩
                        · rw [if_neg c70] at H
                          have c70b0 : (t225 == 0) = false := beq_eq_false_iff_ne.mpr c70
                          have c70b1 : (t225 != 0) = true := bne_iff_ne.mpr c70
                          obtain rfl := Option.some.inj H
                          obtain ⟨Ao73, co73, eo73⟩ := Kd.R_slice HO_8.out
                          subst eo73
                          go_wp2
                          repeat (go_quiet (fail); try go_wp2)
                          go_ret
                          exact ⟨by first | rfl | (simp [errW_none, errW_some] <;> rfl) | (simp [*, errW_none, errW_some] <;> rfl), by repeat (first | (with_reducible first | exact HB.out | apply below_alloc | apply pw_below_drewN | apply below_drew1) | exact HB.out)⟩
                      · rw [if_neg c69] at H
                        have c69b0 : ((t221.length : Int) == 0) = false := beq_eq_false_iff_ne.mpr c69
                        have c69b1 : ((t221.length : Int) != 0) = true := bne_iff_ne.mpr c69
                        have c69b2 : ¬ (t221 = []) := fun h_ => c69 (by rw [h_]; rfl)
                        obtain rfl := Option.some.inj H
                        obtain ⟨Ao74, co74, eo74⟩ := Kd.R_slice HO_8.out
                        subst eo74
                        go_wp2
                        repeat (go_quiet (fail); try go_wp2)
                        go_ret
                        exact ⟨by first | rfl | (simp [errW_none, errW_some] <;> rfl) | (simp [*, errW_none, errW_some] <;> rfl), by repeat (first | (with_reducible first | exact HB.out | apply below_alloc | apply pw_below_drewN | apply below_drew1) | exact HB.out)⟩
                    · rw [if_neg c68] at H
                      have c68b0 : (t222 == t212) = false := beq_eq_false_iff_ne.mpr c68
                      have c68b1 : (t222 != t212) = true := bne_iff_ne.mpr c68
                      obtain rfl := Option.some.inj H
                      go_wp2
                      repeat (go_quiet (fail); try go_wp2)
                      go_ret
                      exact ⟨by first | rfl | (simp [errW_none, errW_some] <;> rfl) | (simp [*, errW_none, errW_some] <;> rfl), by repeat (first | (with_reducible first | exact HB.out | apply below_alloc | apply pw_below_drewN | apply below_drew1) | exact HB.out)⟩
          · rw [if_neg c14] at H
            exact absurd H (by simp)
        · rw [if_neg c11] at H
          exact absurd H (by simp)

end Go.Proofs.Ytmjpibeiglicdaa.E
