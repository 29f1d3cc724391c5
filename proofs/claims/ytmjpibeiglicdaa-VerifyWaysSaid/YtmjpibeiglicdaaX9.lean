/- Functions of the program as plain Lean functions, and their contracts; written by a program out of the translation. -/
import Derived.Test.YtmjpibeiglicdaaX0
import Derived.Test.YtmjpibeiglicdaaX5
import Derived.Test.YtmjpibeiglicdaaX6
import Derived.Test.YtmjpibeiglicdaaX8
namespace Go.Proofs.Ytmjpibeiglicdaa.X
open Go.RowKit Go.Proofs.YtmjpibeiglicdaaW.PrintWords Go.Proofs.YtmjpibeiglicdaaW.PrintLast Go.Proofs.YtmjpibeiglicdaaW.PrintMore
attribute [local go_sem] max2_int min2_int max_two min_two max_three min_three max_four min_four   -- for this text's walks alone
set_option linter.unusedVariables false
set_option linter.unusedSimpArgs false

/-! ### tamisref06_Check: function 39 -/
mutual
def tamisref06_Check.l0 : Nat → List (S56) → Int → Option (Int × Int)
  | 0, _, _ => none
  | k + 1, x0, x4 => if x4 < (x0.length : Int) then ((tamisref06_Local.f k x0 x4).bind fun t217 => (if t217 = 0 then (tamisref06_Check.l0 k x0 (wrap64 (x4 + 1))) else (some (x4, t217)))) else (if 0 ≤ (wrap64 ((x0.length : Int) - 1)) then (if (wrap64 ((x0.length : Int) - 1)) < (x0.length : Int) then ((tamisref04_Kind.f k ((rd_T56 x0 (wrap64 ((x0.length : Int) - 1))).f0)).bind fun t219 => (if t219 = 13 then (tamisref06_Check.j1 k x0 false) else (tamisref06_Check.j1 k x0 (t219 != 14)))) else (none)) else (none))
def tamisref06_Check.j1 : Nat → List (S56) → Bool → Option (Int × Int)
  | 0, _, _ => none
  | k + 1, x0, x42 => if x42 = true then (some (wrap64 ((x0.length : Int) - 1), 12)) else ((tamisref06_Written.f k x0).bind fun t220 => (tamisref06_Check.l1 k x0 t220 0))
def tamisref06_Check.l1 : Nat → List (S56) → List Int → Int → Option (Int × Int)
  | 0, _, _, _ => none
  | k + 1, x0, x7, x8 => if x8 < (x0.length : Int) then (if 0 ≤ x8 then ((tamisref04_Kind.f k ((rd_T56 x0 x8).f0)).bind fun t224 => (if t224 = 4 then (if x8 < (x7.length : Int) then (if 0 ≤ ((rd_T56 x0 x8).f3) then (if (Go.bits .and .u16 (shr .u16 (rd x7 x8) ((rd_T56 x0 x8).f3)) 1) = 0 then (some (x8, 10)) else (tamisref06_Check.l1 k x0 x7 (wrap64 (x8 + 1)))) else (none)) else (none)) else (if t224 = 6 then (if x8 < (x7.length : Int) then (if 0 ≤ ((rd_T56 x0 x8).f3) then (if (Go.bits .and .u16 (shr .u16 (rd x7 x8) ((rd_T56 x0 x8).f3)) 1) = 0 then (some (x8, 10)) else (tamisref06_Check.l1 k x0 x7 (wrap64 (x8 + 1)))) else (none)) else (none)) else (tamisref06_Check.l1 k x0 x7 (wrap64 (x8 + 1)))))) else (none)) else (some (0, 0))
end
def tamisref06_Check.f (k : Nat) (l0 : List (S56)) : Option (Int × Int) := if (l0.length : Int) = 0 then (some (0, 4)) else (if (l0.length : Int) > 4096 then (some (0, 5)) else (tamisref06_Check.l0 k l0 0))
theorem tamisref06_Check.mono_l : ∀ k, (∀ y0 y1, LeO (tamisref06_Check.l0 k y0 y1) (tamisref06_Check.l0 (k + 1) y0 y1)) ∧ (∀ y0 y1, LeO (tamisref06_Check.j1 k y0 y1) (tamisref06_Check.j1 (k + 1) y0 y1)) ∧ (∀ y0 y1 y2, LeO (tamisref06_Check.l1 k y0 y1 y2) (tamisref06_Check.l1 (k + 1) y0 y1 y2))
  | 0 => ⟨fun _ _ r h => by simp [tamisref06_Check.l0] at h, fun _ _ r h => by simp [tamisref06_Check.j1] at h, fun _ _ _ r h => by simp [tamisref06_Check.l1] at h⟩
  | k + 1 => by
    obtain ⟨ih0, ih1, ih2⟩ := tamisref06_Check.mono_l k
    refine ⟨?_, ?_, ?_⟩
    · intro y0 y1
      unfold tamisref06_Check.l0
      repeat' first
      | (with_reducible exact ih0 _ _)
      | (with_reducible exact ih1 _ _)
      | (with_reducible exact ih2 _ _ _)
      | (with_reducible exact tamisref04_Kind.mono _ _)
      | (with_reducible exact tamisref06_Local.mono _ _ _)
      | (with_reducible exact tamisref06_Written.mono _ _)
      | (with_reducible exact LeO.refl _)
      | (with_reducible exact LeO.none _)
      | (with_reducible refine LeO.ite ?_ ?_)
      | (with_reducible refine LeO.bind ?_ (fun _ => ?_))
      | exact ih0 _ _
      | exact ih1 _ _
      | exact ih2 _ _ _
      | exact tamisref04_Kind.mono _ _
      | exact tamisref06_Local.mono _ _ _
      | exact tamisref06_Written.mono _ _
      | exact LeO.none _
      | refine LeO.ite ?_ ?_
      | refine LeO.bind ?_ (fun _ => ?_)
    · intro y0 y1
      unfold tamisref06_Check.j1
      repeat' first
      | (with_reducible exact ih0 _ _)
      | (with_reducible exact ih1 _ _)
      | (with_reducible exact ih2 _ _ _)
      | (with_reducible exact tamisref04_Kind.mono _ _)
      | (with_reducible exact tamisref06_Local.mono _ _ _)
      | (with_reducible exact tamisref06_Written.mono _ _)
      | (with_reducible exact LeO.refl _)
      | (with_reducible exact LeO.none _)
      | (with_reducible refine LeO.ite ?_ ?_)
      | (with_reducible refine LeO.bind ?_ (fun _ => ?_))
      | exact ih0 _ _
      | exact ih1 _ _
      | exact ih2 _ _ _
      | exact tamisref04_Kind.mono _ _
      | exact tamisref06_Local.mono _ _ _
      | exact tamisref06_Written.mono _ _
      | exact LeO.none _
      | refine LeO.ite ?_ ?_
      | refine LeO.bind ?_ (fun _ => ?_)
    · intro y0 y1 y2
      unfold tamisref06_Check.l1
      repeat' first
      | (with_reducible exact ih0 _ _)
      | (with_reducible exact ih1 _ _)
      | (with_reducible exact ih2 _ _ _)
      | (with_reducible exact tamisref04_Kind.mono _ _)
      | (with_reducible exact tamisref06_Local.mono _ _ _)
      | (with_reducible exact tamisref06_Written.mono _ _)
      | (with_reducible exact LeO.refl _)
      | (with_reducible exact LeO.none _)
      | (with_reducible refine LeO.ite ?_ ?_)
      | (with_reducible refine LeO.bind ?_ (fun _ => ?_))
      | exact ih0 _ _
      | exact ih1 _ _
      | exact ih2 _ _ _
      | exact tamisref04_Kind.mono _ _
      | exact tamisref06_Local.mono _ _ _
      | exact tamisref06_Written.mono _ _
      | exact LeO.none _
      | refine LeO.ite ?_ ?_
      | refine LeO.bind ?_ (fun _ => ?_)
theorem tamisref06_Check.mono : ∀ a0 k, LeO (tamisref06_Check.f k a0) (tamisref06_Check.f (k + 1) a0) := by
  intro a0 k
  obtain ⟨ih0, ih1, ih2⟩ := tamisref06_Check.mono_l k
  unfold tamisref06_Check.f
  repeat' first
      | (with_reducible exact ih0 _ _)
      | (with_reducible exact ih1 _ _)
      | (with_reducible exact ih2 _ _ _)
      | (with_reducible exact tamisref04_Kind.mono _ _)
      | (with_reducible exact tamisref06_Local.mono _ _ _)
      | (with_reducible exact tamisref06_Written.mono _ _)
      | (with_reducible exact LeO.refl _)
      | (with_reducible exact LeO.none _)
      | (with_reducible refine LeO.ite ?_ ?_)
      | (with_reducible refine LeO.bind ?_ (fun _ => ?_))
      | exact ih0 _ _
      | exact ih1 _ _
      | exact ih2 _ _ _
      | exact tamisref04_Kind.mono _ _
      | exact tamisref06_Local.mono _ _ _
      | exact tamisref06_Written.mono _ _
      | exact LeO.none _
      | refine LeO.ite ?_ ?_
      | refine LeO.bind ?_ (fun _ => ?_)
set_option maxHeartbeats 8000000 in
set_option maxRecDepth 100000 in
theorem tamisref06_Check.calls (k : Nat) (A0 : Option Addr) (c0 : Nat) (l0 : List (S56)) (r1 : Int) (r2 : Int) (w : World) (hr0 : Kd.C k56 w A0 l0.length l0) (hc0 : l0.length ≤ c0) (h : tamisref06_Check.f k l0 = some (r1, r2)) :
    Calls Try.prog 39 #[.slice A0 l0.length c0] w fun e w' => e = .returned (.tuple #[.int .i64 r1, .int .i64 r2]) ∧ Below w.heap.size w w' := by
  have HR0 := Aside0.mk hr0
  have HC0 := Aside0.mk hc0
  clear hr0 hc0
  have HB := Aside0.mk (Below.refl w.heap.size w)
  have H : (if (l0.length : Int) = 0 then (some (0, 4)) else (if (l0.length : Int) > 4096 then (some (0, 5)) else (tamisref06_Check.l0 k l0 0))) = some (r1, r2) := h
  clear h
  by_cases c2 : (l0.length : Int) = 0
  · rw [if_pos c2] at H
    have c2b0 : ((l0.length : Int) == 0) = true := beq_iff_eq.mpr c2
    have c2b1 : ((l0.length : Int) != 0) = false := bne_eq_false_iff_eq.mpr c2
    clear c2
    simp only [Option.some.injEq, Prod.mk.injEq] at H
    obtain ⟨rfl, rfl⟩ := H
    go_enter Try.func39, Try.ntmps39
    go_wp2
    repeat (go_quiet (fail); try go_wp2)
    go_ret2
    exact ⟨by first | rfl | (simp [errW_none, errW_some] <;> rfl) | (simp [*, errW_none, errW_some] <;> rfl), by repeat (first | (with_reducible first | exact HB.out | apply below_alloc | apply pw_below_drewN | apply below_drew1) | exact HB.out)⟩
  · rw [if_neg c2] at H
    have c2b0 : ((l0.length : Int) == 0) = false := beq_eq_false_iff_ne.mpr c2
    have c2b1 : ((l0.length : Int) != 0) = true := bne_iff_ne.mpr c2
    have c2b2 : ¬ (l0 = []) := fun h_ => c2 (by rw [h_]; rfl)
    by_cases c3 : (l0.length : Int) > 4096
    · rw [if_pos c3] at H
      have c3b0 : decide (4096 < (l0.length : Int)) = true := decide_eq_true c3
      have c3b1 : decide (4096 < l0.length) = true := decide_eq_true (by omega)
      clear c3
      simp only [Option.some.injEq, Prod.mk.injEq] at H
      obtain ⟨rfl, rfl⟩ := H
      go_enter Try.func39, Try.ntmps39
      go_wp2
      repeat (go_quiet (fail); try go_wp2)
      go_ret2
      exact ⟨by first | rfl | (simp [errW_none, errW_some] <;> rfl) | (simp [*, errW_none, errW_some] <;> rfl), by repeat (first | (with_reducible first | exact HB.out | apply below_alloc | apply pw_below_drewN | apply below_drew1) | exact HB.out)⟩
    · rw [if_neg c3] at H
      have c3b0 : decide (4096 < (l0.length : Int)) = false := decide_eq_false c3
      have c3b1 : decide (4096 < l0.length) = false := decide_eq_false (by omega)
      clear c3
      have H' := Aside0.mk H
      clear H
      go_enter Try.func39, Try.ntmps39
      go_wp2
      repeat (go_quiet (fail); try go_wp2)
      go_loopg [4] k (fun kq v4 w' => ∃ (x4_1 : Int), v4 = .int .i64 x4_1 ∧ Aside0 (tamisref06_Check.l0 kq l0 x4_1 = some (r1, r2)) ∧ Aside0 (kq ≤ k) ∧ Aside0 (Below w.heap.size w w'))
      case atStart => exact ⟨(0), (by first | rfl | (simp; done) | (simp [*]; done)), H', ⟨Nat.le_refl _⟩, ⟨by repeat (first | (with_reducible first | exact HB.out | apply below_alloc | apply pw_below_drewN | apply below_drew1) | exact HB.out)⟩⟩
      case round =>
        clear H'
        try clear c2
        try clear c2b0
        try clear c2b1
        try clear c2b2
        try clear p2
        try clear c3
        try clear c3b0
        try clear c3b1
        obtain ⟨x4_1, rfl, HA, HK1, HB⟩ := hrel
        cases gk with
        | zero => exact absurd HA.out (by simp [tamisref06_Check.l0])
        | succ k1 =>
          have H := HA.out
          clear HA
          simp only [tamisref06_Check.l0] at H
          by_cases c4 : x4_1 < (l0.length : Int)
          · rw [if_pos c4] at H
            have c4b0 : decide (x4_1 < (l0.length : Int)) = true := decide_eq_true c4
            clear c4
            replace H := Option.bind_eq_some_iff.mp H
            obtain ⟨t217, A50, H⟩ := H
            replace H : (if t217 = 0 then (tamisref06_Check.l0 k1 l0 (wrap64 (x4_1 + 1))) else (some (x4_1, t217))) = some (r1, r2) := H
            have A5 := Aside0.mk A50
            clear A50
            by_cases c6 : t217 = 0
            · rw [if_pos c6] at H
              have c6b0 : (t217 == 0) = true := beq_iff_eq.mpr c6
              have c6b1 : (t217 != 0) = false := bne_eq_false_iff_eq.mpr c6
              clear c6
              have H' := Aside0.mk H
              clear H
              go_wp2_with (first | (go_at_call 42; (with_reducible refine (tamisref06_Local.calls k1 _ _ l0 x4_1 t217 _ ?side1 ?side2 A5.out).mono ?_); (case side1 => repeat (first | exact (Kd.C_below HR0.out HB.out) | (with_reducible refine Kd.C_alloc ?_ _) | (with_reducible refine Kd.C_drewN ?_ _) | (with_reducible refine Kd.C_drew ?_))); (case side2 => exact HC0.out); rintro e w7 ⟨rfl, hb⟩; have n0_ := Aside0.mk (below_step (by repeat (first | (with_reducible first | exact HB.out | apply below_alloc | apply pw_below_drewN | apply below_drew1) | exact HB.out)) hb); clear HB; have HB := n0_; clear n0_; (try clear hb); (try clear hb2); (try clear hk); (try clear hi)))
              repeat (go_quiet (first | (go_at_call 42; (with_reducible refine (tamisref06_Local.calls k1 _ _ l0 x4_1 t217 _ ?side1 ?side2 A5.out).mono ?_); (case side1 => repeat (first | exact (Kd.C_below HR0.out HB.out) | (with_reducible refine Kd.C_alloc ?_ _) | (with_reducible refine Kd.C_drewN ?_ _) | (with_reducible refine Kd.C_drew ?_))); (case side2 => exact HC0.out); rintro e w7 ⟨rfl, hb⟩; have n0_ := Aside0.mk (below_step (by repeat (first | (with_reducible first | exact HB.out | apply below_alloc | apply pw_below_drewN | apply below_drew1) | exact HB.out)) hb); clear HB; have HB := n0_; clear n0_; (try clear hb); (try clear hb2); (try clear hk); (try clear hi))); try go_wp2_with (first | (go_at_call 42; (with_reducible refine (tamisref06_Local.calls k1 _ _ l0 x4_1 t217 _ ?side1 ?side2 A5.out).mono ?_); (case side1 => repeat (first | exact (Kd.C_below HR0.out HB.out) | (with_reducible refine Kd.C_alloc ?_ _) | (with_reducible refine Kd.C_drewN ?_ _) | (with_reducible refine Kd.C_drew ?_))); (case side2 => exact HC0.out); rintro e w7 ⟨rfl, hb⟩; have n0_ := Aside0.mk (below_step (by repeat (first | (with_reducible first | exact HB.out | apply below_alloc | apply pw_below_drewN | apply below_drew1) | exact HB.out)) hb); clear HB; have HB := n0_; clear n0_; (try clear hb); (try clear hb2); (try clear hk); (try clear hi))))
              go_roundg k1
              case measure => have := HK1.out; omega
              case rel => exact ⟨(wrap64 (x4_1 + 1)), (by first | rfl | (simp; done) | (simp [*]; done)), H', ⟨by have := HK1.out; omega⟩, ⟨by repeat (first | (with_reducible first | exact HB.out | apply below_alloc | apply pw_below_drewN | apply below_drew1) | exact HB.out)⟩⟩
            · rw [if_neg c6] at H
              have c6b0 : (t217 == 0) = false := beq_eq_false_iff_ne.mpr c6
              have c6b1 : (t217 != 0) = true := bne_iff_ne.mpr c6
              simp only [Option.some.injEq, Prod.mk.injEq] at H
              obtain ⟨rfl, rfl⟩ := H
              go_wp2_with (first | (go_at_call 42; (with_reducible refine (tamisref06_Local.calls k1 _ _ l0 x4_1 t217 _ ?side1 ?side2 A5.out).mono ?_); (case side1 => repeat (first | exact (Kd.C_below HR0.out HB.out) | (with_reducible refine Kd.C_alloc ?_ _) | (with_reducible refine Kd.C_drewN ?_ _) | (with_reducible refine Kd.C_drew ?_))); (case side2 => exact HC0.out); rintro e w8 ⟨rfl, hb⟩; have n0_ := Aside0.mk (below_step (by repeat (first | (with_reducible first | exact HB.out | apply below_alloc | apply pw_below_drewN | apply below_drew1) | exact HB.out)) hb); clear HB; have HB := n0_; clear n0_; (try clear hb); (try clear hb2); (try clear hk); (try clear hi)))
              repeat (go_quiet (first | (go_at_call 42; (with_reducible refine (tamisref06_Local.calls k1 _ _ l0 x4_1 t217 _ ?side1 ?side2 A5.out).mono ?_); (case side1 => repeat (first | exact (Kd.C_below HR0.out HB.out) | (with_reducible refine Kd.C_alloc ?_ _) | (with_reducible refine Kd.C_drewN ?_ _) | (with_reducible refine Kd.C_drew ?_))); (case side2 => exact HC0.out); rintro e w8 ⟨rfl, hb⟩; have n0_ := Aside0.mk (below_step (by repeat (first | (with_reducible first | exact HB.out | apply below_alloc | apply pw_below_drewN | apply below_drew1) | exact HB.out)) hb); clear HB; have HB := n0_; clear n0_; (try clear hb); (try clear hb2); (try clear hk); (try clear hi))); try go_wp2_with (first | (go_at_call 42; (with_reducible refine (tamisref06_Local.calls k1 _ _ l0 x4_1 t217 _ ?side1 ?side2 A5.out).mono ?_); (case side1 => repeat (first | exact (Kd.C_below HR0.out HB.out) | (with_reducible refine Kd.C_alloc ?_ _) | (with_reducible refine Kd.C_drewN ?_ _) | (with_reducible refine Kd.C_drew ?_))); (case side2 => exact HC0.out); rintro e w8 ⟨rfl, hb⟩; have n0_ := Aside0.mk (below_step (by repeat (first | (with_reducible first | exact HB.out | apply below_alloc | apply pw_below_drewN | apply below_drew1) | exact HB.out)) hb); clear HB; have HB := n0_; clear n0_; (try clear hb); (try clear hb2); (try clear hk); (try clear hi))))
              go_ret2
              exact ⟨by first | rfl | (simp [errW_none, errW_some] <;> rfl) | (simp [*, errW_none, errW_some] <;> rfl), by repeat (first | (with_reducible first | exact HB.out | apply below_alloc | apply pw_below_drewN | apply below_drew1) | exact HB.out)⟩
          · rw [if_neg c4] at H
            have c4b0 : decide (x4_1 < (l0.length : Int)) = false := decide_eq_false c4
            clear c4
            obtain ⟨ji9, hji9⟩ : ∃ j_ : Int, (wrap64 ((l0.length : Int) - 1)) = j_ := ⟨_, rfl⟩
            replace H : (if 0 ≤ (ji9) then (if (ji9) < (l0.length : Int) then ((tamisref04_Kind.f k1 ((rd_T56 l0 (ji9)).f0)).bind fun t219 => (if t219 = 13 then (tamisref06_Check.j1 k1 l0 false) else (tamisref06_Check.j1 k1 l0 (t219 != 14)))) else (none)) else (none)) = some (r1, r2) := by first | (rw [hji9] at H; exact H) | (simp only [hji9] at H ⊢; exact H)
            have hji9w : (IntKind.i64.wrap ((l0.length : Int) - 1)) = ji9 := (i64_w _).trans hji9
            by_cases c10 : 0 ≤ (ji9)
            · rw [if_pos c10] at H
              have c10b0 : decide (0 ≤ (ji9)) = true := decide_eq_true c10
              clear c10
              by_cases c11 : (ji9) < (l0.length : Int)
              · rw [if_pos c11] at H
                have c11b0 : decide ((ji9) < (l0.length : Int)) = true := decide_eq_true c11
                clear c11
                replace H := Option.bind_eq_some_iff.mp H
                obtain ⟨t219, A120, H⟩ := H
                replace H : (if t219 = 13 then (tamisref06_Check.j1 k1 l0 false) else (tamisref06_Check.j1 k1 l0 (t219 != 14))) = some (r1, r2) := H
                have A12 := Aside0.mk A120
                clear A120
                have HC13 := Aside0.mk H
                clear H
                have p218 : 0 ≤ ((ji9) : Int) := of_decide_eq_true (by first | (with_reducible assumption) | assumption)
                have q218 : (ji9) < (l0.length : Int) := of_decide_eq_true (by first | (with_reducible assumption) | assumption)
                obtain ⟨ad218, e218, hx218_0, hx218_1, hx218_2, hx218_3⟩ := at_T56 HR0.out (ji9) p218 q218
                cases e218
                replace hx218_0 := (HB.out.cell (World.block_lt_of_cell? w _ hx218_0)).trans hx218_0
                replace hx218_1 := (HB.out.cell (World.block_lt_of_cell? w _ hx218_1)).trans hx218_1
                replace hx218_2 := (HB.out.cell (World.block_lt_of_cell? w _ hx218_2)).trans hx218_2
                replace hx218_3 := (HB.out.cell (World.block_lt_of_cell? w _ hx218_3)).trans hx218_3
                replace p218 := eq_true p218
                replace q218 := eq_true q218
                go_upto_region 12 with (first | (go_at_call 45; (with_reducible refine (tamisref04_Kind.calls k1 ((rd_T56 l0 (ji9)).f0) t219 _ A12.out).mono ?_); rintro e w14 ⟨rfl, hb⟩; have n0_ := Aside0.mk (below_step (by repeat (first | (with_reducible first | exact HB.out | apply below_alloc | apply pw_below_drewN | apply below_drew1) | exact HB.out)) hb); clear HB; have HB := n0_; clear n0_; (try clear hb); (try clear hb2); (try clear hk); (try clear hi)))
                repeat (go_quiet (first | (go_at_call 45; (with_reducible refine (tamisref04_Kind.calls k1 ((rd_T56 l0 (ji9)).f0) t219 _ A12.out).mono ?_); rintro e w14 ⟨rfl, hb⟩; have n0_ := Aside0.mk (below_step (by repeat (first | (with_reducible first | exact HB.out | apply below_alloc | apply pw_below_drewN | apply below_drew1) | exact HB.out)) hb); clear HB; have HB := n0_; clear n0_; (try clear hb); (try clear hb2); (try clear hk); (try clear hi))); go_upto_region 12 with (first | (go_at_call 45; (with_reducible refine (tamisref04_Kind.calls k1 ((rd_T56 l0 (ji9)).f0) t219 _ A12.out).mono ?_); rintro e w14 ⟨rfl, hb⟩; have n0_ := Aside0.mk (below_step (by repeat (first | (with_reducible first | exact HB.out | apply below_alloc | apply pw_below_drewN | apply below_drew1) | exact HB.out)) hb); clear HB; have HB := n0_; clear n0_; (try clear hb); (try clear hb2); (try clear hk); (try clear hi))))
                (try simp only [Act.put, List.setIfInBounds_toArray, List.set_cons_zero, List.set_cons_succ])
                go_cut [42] (fun v42 wc => ∃ (kq : Nat) (x42_12 : Bool), v42 = .bool x42_12 ∧ Aside0 (tamisref06_Check.j1 kq l0 x42_12 = some (r1, r2)) ∧ Aside0 (kq ≤ k1) ∧ Aside0 (Below w.heap.size w wc))
                case first =>
                  have H := HC13.out
                  clear HC13
                  by_cases c15 : t219 = 13
                  · rw [if_pos c15] at H
                    have c15b0 : (t219 == 13) = true := beq_iff_eq.mpr c15
                    have c15b1 : (t219 != 13) = false := bne_eq_false_iff_eq.mpr c15
                    clear c15
                    (first | rw [c15b0] | (simp only [i64_w, i32_w]; rw [c15b0]) | skip)
                    have H' := Aside0.mk H
                    clear H
                    go_wp2
                    repeat (go_quiet (fail); try go_wp2)
                    go_meet
                    case rel => exact ⟨_, (false), (by first | rfl | (simp; done) | (simp [*]; done)), H', ⟨by have := HK1.out; first | omega | exact Nat.le_refl _⟩, ⟨by repeat (first | (with_reducible first | exact HB.out | apply below_alloc | apply pw_below_drewN | apply below_drew1) | exact HB.out)⟩⟩
                  · rw [if_neg c15] at H
                    have c15b0 : (t219 == 13) = false := beq_eq_false_iff_ne.mpr c15
                    have c15b1 : (t219 != 13) = true := bne_iff_ne.mpr c15
                    (first | rw [c15b0] | (simp only [i64_w, i32_w]; rw [c15b0]) | skip)
                    have H' := Aside0.mk H
                    clear H
                    go_wp2
                    repeat (go_quiet (fail); try go_wp2)
                    go_meet
                    case rel => exact ⟨_, ((t219 != 14)), (by first | rfl | (simp; done) | (simp [*]; done)), H', ⟨by have := HK1.out; first | omega | exact Nat.le_refl _⟩, ⟨by repeat (first | (with_reducible first | exact HB.out | apply below_alloc | apply pw_below_drewN | apply below_drew1) | exact HB.out)⟩⟩
                case rest =>
                  clear HC13
                  try clear c1
                  try clear c2
                  try clear c2b0
                  try clear c2b1
                  try clear c2b2
                  try clear p2
                  try clear q2
                  try clear hx2
                  try clear c3
                  try clear c3b0
                  try clear c3b1
                  try clear c4
                  try clear c4b0
                  try clear c6
                  try clear c6b0
                  try clear c6b1
                  try clear p6
                  try clear c10
                  try clear c10b0
                  try clear c11
                  try clear c11b0
                  try clear c15
                  try clear c15b0
                  try clear c15b1
                  try clear hx218_0
                  try clear hx218_1
                  try clear hx218_2
                  try clear hx218_3
                  try clear p2
                  try clear p218
                  try clear q218
                  obtain ⟨kq, x42_12, rfl, HA, HJ12, HB⟩ := hcut
                  cases kq with
                  | zero => exact absurd HA.out (by simp [tamisref06_Check.j1])
                  | succ kj12 =>
                    have H := HA.out
                    clear HA
                    simp only [tamisref06_Check.j1] at H
                    by_cases c16 : x42_12 = true
                    · subst c16
                      have H1 : (some (wrap64 ((l0.length : Int) - 1), 12)) = some (r1, r2) := by rw [if_pos rfl] at H; exact H
                      clear H
                      have H := H1
                      clear H1
                      simp only [Option.some.injEq, Prod.mk.injEq] at H
                      obtain ⟨rfl, rfl⟩ := H
                      go_wp2
                      repeat (go_quiet (fail); try go_wp2)
                      go_ret2
                      exact ⟨by first | rfl | (simp [errW_none, errW_some] <;> rfl) | (simp only [← hji9]; first | rfl | (simp [errW_none, errW_some] <;> rfl)) | (simp [*, errW_none, errW_some] <;> rfl), by repeat (first | (with_reducible first | exact HB.out | apply below_alloc | apply pw_below_drewN | apply below_drew1) | exact HB.out)⟩
                    · replace c16 := Bool.eq_false_iff.mpr c16
                      subst c16
                      have H1 : ((tamisref06_Written.f kj12 l0).bind fun t220 => (tamisref06_Check.l1 kj12 l0 t220 0)) = some (r1, r2) := by rw [if_neg (show ¬ (false = true) by decide)] at H; exact H
                      clear H
                      have H := H1
                      clear H1
                      replace H := Option.bind_eq_some_iff.mp H
                      obtain ⟨t220, A170, H⟩ := H
                      replace H : (tamisref06_Check.l1 kj12 l0 t220 0) = some (r1, r2) := H
                      have A17 := Aside0.mk A170
                      clear A170
                      have H' := Aside0.mk H
                      clear H
                      go_wp2_with (first | (go_at_call 44; (with_reducible refine (tamisref06_Written.calls kj12 _ _ l0 t220 _ ?side1 ?side2 A17.out).mono ?_); (case side1 => repeat (first | exact (Kd.C_below HR0.out HB.out) | (with_reducible refine Kd.C_alloc ?_ _) | (with_reducible refine Kd.C_drewN ?_ _) | (with_reducible refine Kd.C_drew ?_))); (case side2 => exact HC0.out); rintro e w18 ⟨v221, rfl, ho0, hb⟩; have n0_ := Aside0.mk (Kd.R_lower ho0 (below_size (by repeat (first | (with_reducible first | exact HB.out | apply below_alloc | apply pw_below_drewN | apply below_drew1) | exact HB.out)))); have n1_ := Aside0.mk (below_step (by repeat (first | (with_reducible first | exact HB.out | apply below_alloc | apply pw_below_drewN | apply below_drew1) | exact HB.out)) hb); clear HB; have HO222 := n0_; have HB := n1_; clear n0_ n1_; (try clear hb); (try clear hb2); (try clear hk); (try clear hi); (try clear ho0)))
                      repeat (go_quiet (first | (go_at_call 44; (with_reducible refine (tamisref06_Written.calls kj12 _ _ l0 t220 _ ?side1 ?side2 A17.out).mono ?_); (case side1 => repeat (first | exact (Kd.C_below HR0.out HB.out) | (with_reducible refine Kd.C_alloc ?_ _) | (with_reducible refine Kd.C_drewN ?_ _) | (with_reducible refine Kd.C_drew ?_))); (case side2 => exact HC0.out); rintro e w18 ⟨v221, rfl, ho0, hb⟩; have n0_ := Aside0.mk (Kd.R_lower ho0 (below_size (by repeat (first | (with_reducible first | exact HB.out | apply below_alloc | apply pw_below_drewN | apply below_drew1) | exact HB.out)))); have n1_ := Aside0.mk (below_step (by repeat (first | (with_reducible first | exact HB.out | apply below_alloc | apply pw_below_drewN | apply below_drew1) | exact HB.out)) hb); clear HB; have HO222 := n0_; have HB := n1_; clear n0_ n1_; (try clear hb); (try clear hb2); (try clear hk); (try clear hi); (try clear ho0))); try go_wp2_with (first | (go_at_call 44; (with_reducible refine (tamisref06_Written.calls kj12 _ _ l0 t220 _ ?side1 ?side2 A17.out).mono ?_); (case side1 => repeat (first | exact (Kd.C_below HR0.out HB.out) | (with_reducible refine Kd.C_alloc ?_ _) | (with_reducible refine Kd.C_drewN ?_ _) | (with_reducible refine Kd.C_drew ?_))); (case side2 => exact HC0.out); rintro e w18 ⟨v221, rfl, ho0, hb⟩; have n0_ := Aside0.mk (Kd.R_lower ho0 (below_size (by repeat (first | (with_reducible first | exact HB.out | apply below_alloc | apply pw_below_drewN | apply below_drew1) | exact HB.out)))); have n1_ := Aside0.mk (below_step (by repeat (first | (with_reducible first | exact HB.out | apply below_alloc | apply pw_below_drewN | apply below_drew1) | exact HB.out)) hb); clear HB; have HO222 := n0_; have HB := n1_; clear n0_ n1_; (try clear hb); (try clear hb2); (try clear hk); (try clear hi); (try clear ho0))))
                      go_loopg [8] kj12 (fun kq v8 w' => ∃ (x8_3 : Int), v8 = .int .i64 x8_3 ∧ Aside0 (tamisref06_Check.l1 kq l0 t220 x8_3 = some (r1, r2)) ∧ Aside0 (kq ≤ kj12) ∧ Aside0 (Kd.R (Kd.int .u16) 35 w' w.heap.size (fun _ => True) v221 t220) ∧ Aside0 (Below w.heap.size w w'))
                      case atStart => exact ⟨(0), (by first | rfl | (simp; done) | (simp [*]; done)), H', ⟨Nat.le_refl _⟩, ⟨by (with_reducible repeat (first | apply Kd.R_alloc | apply Kd.R_drewN | apply Kd.R_drew)); exact HO222.out⟩, ⟨by repeat (first | (with_reducible first | exact HB.out | apply below_alloc | apply pw_below_drewN | apply below_drew1) | exact HB.out)⟩⟩
                      case round =>
                        clear H'
                        try clear c1
                        try clear c2
                        try clear c2b0
                        try clear c2b1
                        try clear c2b2
                        try clear p2
                        try clear q2
                        try clear hx2
                        try clear c3
                        try clear c3b0
                        try clear c3b1
                        try clear c4
                        try clear c4b0
                        try clear c6
                        try clear c6b0
                        try clear c6b1
                        try clear p6
                        try clear c10
                        try clear c10b0
                        try clear c11
                        try clear c11b0
                        try clear c15
                        try clear c15b0
                        try clear c15b1
                        try clear c16
                        try clear hx218_0
                        try clear hx218_1
                        try clear hx218_2
                        try clear hx218_3
                        try clear p2
                        try clear p218
                        try clear p6
                        try clear q2
                        try clear q218
                        obtain ⟨x8_3, rfl, HA, HK3, HO_7, HB⟩ := hrel
                        cases gk with
                        | zero => exact absurd HA.out (by simp [tamisref06_Check.l1])
                        | succ k3 =>
                          have H := HA.out
                          clear HA
                          simp only [tamisref06_Check.l1] at H
                          by_cases c19 : x8_3 < (l0.length : Int)
                          · rw [if_pos c19] at H
                            have c19b0 : decide (x8_3 < (l0.length : Int)) = true := decide_eq_true c19
                            clear c19
                            by_cases c20 : 0 ≤ x8_3
                            · rw [if_pos c20] at H
                              have c20b0 : decide (0 ≤ x8_3) = true := decide_eq_true c20
                              clear c20
                              replace H := Option.bind_eq_some_iff.mp H
                              obtain ⟨t224, A210, H⟩ := H
                              replace H : (if t224 = 4 then (if x8_3 < (t220.length : Int) then (if 0 ≤ ((rd_T56 l0 x8_3).f3) then (if (Go.bits .and .u16 (shr .u16 (rd t220 x8_3) ((rd_T56 l0 x8_3).f3)) 1) = 0 then (some (x8_3, 10)) else (tamisref06_Check.l1 k3 l0 t220 (wrap64 (x8_3 + 1)))) else (none)) else (none)) else (if t224 = 6 then (if x8_3 < (t220.length : Int) then (if 0 ≤ ((rd_T56 l0 x8_3).f3) then (if (Go.bits .and .u16 (shr .u16 (rd t220 x8_3) ((rd_T56 l0 x8_3).f3)) 1) = 0 then (some (x8_3, 10)) else (tamisref06_Check.l1 k3 l0 t220 (wrap64 (x8_3 + 1)))) else (none)) else (none)) else (tamisref06_Check.l1 k3 l0 t220 (wrap64 (x8_3 + 1))))) = some (r1, r2) := H
                              have A21 := Aside0.mk A210
                              clear A210
                              by_cases c22 : t224 = 4
                              · rw [if_pos c22] at H
                                have c22b0 : (t224 == 4) = true := beq_iff_eq.mpr c22
                                have c22b1 : (t224 != 4) = false := bne_eq_false_iff_eq.mpr c22
                                clear c22
                                by_cases c23 : x8_3 < (t220.length : Int)
                                · rw [if_pos c23] at H
                                  have c23b0 : decide (x8_3 < (t220.length : Int)) = true := decide_eq_true c23
                                  clear c23
                                  by_cases c24 : 0 ≤ ((rd_T56 l0 x8_3).f3)
                                  · rw [if_pos c24] at H
                                    have c24b0 := eq_true c24
                                    have c24b1 : decide (0 ≤ ((rd_T56 l0 x8_3).f3)) = true := decide_eq_true c24
                                    clear c24
                                    obtain ⟨ji25, hji25⟩ : ∃ j_ : Int, (shr .u16 (rd t220 x8_3) ((rd_T56 l0 x8_3).f3)) = j_ := ⟨_, rfl⟩
                                    replace H : (if (Go.bits .and .u16 (ji25) 1) = 0 then (some (x8_3, 10)) else (tamisref06_Check.l1 k3 l0 t220 (wrap64 (x8_3 + 1)))) = some (r1, r2) := by first | (rw [hji25] at H; exact H) | (simp only [hji25] at H ⊢; exact H)
                                    (try rw [hji25] at A21)
                                    have hji25_ : ((rd t220 x8_3) / 2 ^ min ((rd_T56 l0 x8_3).f3).toNat 16) = ji25 := hji25
                                    have hji25z : ((rd_T56 l0 x8_3).f3) ≤ 16 → ((rd t220 x8_3) / 2 ^ ((rd_T56 l0 x8_3).f3).toNat) = ji25 := shr_small hji25
                                    by_cases c26 : (Go.bits .and .u16 (ji25) 1) = 0
                                    · rw [if_pos c26] at H
                                      have c26b0 : ((Go.bits .and .u16 (ji25) 1) == 0) = true := beq_iff_eq.mpr c26
                                      have c26b1 : ((Go.bits .and .u16 (ji25) 1) != 0) = false := bne_eq_false_iff_eq.mpr c26
                                      clear c26
                                      simp only [Option.some.injEq, Prod.mk.injEq] at H
                                      obtain ⟨rfl, rfl⟩ := H
                                      have p223 : 0 ≤ (x8_3 : Int) := of_decide_eq_true (by first | (with_reducible assumption) | assumption)
                                      have q223 : x8_3 < (l0.length : Int) := of_decide_eq_true (by first | (with_reducible assumption) | assumption)
                                      obtain ⟨ad223, e223, hx223_0, hx223_1, hx223_2, hx223_3⟩ := at_T56 HR0.out x8_3 p223 q223
                                      obtain rfl : ad218 = ad223 := (by injection e223)
                                      replace hx223_0 := (HB.out.cell (World.block_lt_of_cell? w _ hx223_0)).trans hx223_0
                                      replace hx223_1 := (HB.out.cell (World.block_lt_of_cell? w _ hx223_1)).trans hx223_1
                                      replace hx223_2 := (HB.out.cell (World.block_lt_of_cell? w _ hx223_2)).trans hx223_2
                                      replace hx223_3 := (HB.out.cell (World.block_lt_of_cell? w _ hx223_3)).trans hx223_3
                                      replace p223 := eq_true p223
                                      replace q223 := eq_true q223
                                      go_wp2_with (first | (go_at_call 45; (with_reducible refine (tamisref04_Kind.calls k3 ((rd_T56 l0 x8_3).f0) t224 _ A21.out).mono ?_); rintro e w27 ⟨rfl, hb⟩; have n0_ := Aside0.mk (Kd.R_below (by (with_reducible repeat (first | apply Kd.R_alloc | apply Kd.R_drewN | apply Kd.R_drew)); exact HO_7.out) hb); have n1_ := Aside0.mk (below_step (by repeat (first | (with_reducible first | exact HB.out | apply below_alloc | apply pw_below_drewN | apply below_drew1) | exact HB.out)) hb); clear HO_7; clear HB; have HO_7 := n0_; have HB := n1_; clear n0_ n1_; (try clear hb); (try clear hb2); (try clear hk); (try clear hi); obtain ⟨Ao28, co28, eo28⟩ := Kd.R_slice HO_7.out; subst eo28; have p225 : 0 ≤ (x8_3 : Int) := of_decide_eq_true (by first | (with_reducible assumption) | assumption); have q225 : x8_3 < (t220.length : Int) := of_decide_eq_true (by first | (with_reducible assumption) | assumption); obtain ⟨ad225, e225, hx225_0⟩ := Kd.at_int (Kd.R_reads' HO_7.out).2.2 x8_3 p225 q225; cases e225; replace p225 := eq_true p225; replace q225 := eq_true q225; have p226 : 0 ≤ (x8_3 : Int) := of_decide_eq_true (by first | (with_reducible assumption) | assumption); have q226 : x8_3 < (l0.length : Int) := of_decide_eq_true (by first | (with_reducible assumption) | assumption); obtain ⟨ad226, e226, hx226_0, hx226_1, hx226_2, hx226_3⟩ := at_T56 HR0.out x8_3 p226 q226; obtain rfl : ad218 = ad226 := (by injection e226); replace hx226_0 := (HB.out.cell (World.block_lt_of_cell? w _ hx226_0)).trans hx226_0; replace hx226_1 := (HB.out.cell (World.block_lt_of_cell? w _ hx226_1)).trans hx226_1; replace hx226_2 := (HB.out.cell (World.block_lt_of_cell? w _ hx226_2)).trans hx226_2; replace hx226_3 := (HB.out.cell (World.block_lt_of_cell? w _ hx226_3)).trans hx226_3; replace p226 := eq_true p226; replace q226 := eq_true q226))
                                      repeat (go_quiet (first | (go_at_call 45; (with_reducible refine (tamisref04_Kind.calls k3 ((rd_T56 l0 x8_3).f0) t224 _ A21.out).mono ?_); rintro e w27 ⟨rfl, hb⟩; have n0_ := Aside0.mk (Kd.R_below (by (with_reducible repeat (first | apply Kd.R_alloc | apply Kd.R_drewN | apply Kd.R_drew)); exact HO_7.out) hb); have n1_ := Aside0.mk (below_step (by repeat (first | (with_reducible first | exact HB.out | apply below_alloc | apply pw_below_drewN | apply below_drew1) | exact HB.out)) hb); clear HO_7; clear HB; have HO_7 := n0_; have HB := n1_; clear n0_ n1_; (try clear hb); (try clear hb2); (try clear hk); (try clear hi); obtain ⟨Ao28, co28, eo28⟩ := Kd.R_slice HO_7.out; subst eo28; have p225 : 0 ≤ (x8_3 : Int) := of_decide_eq_true (by first | (with_reducible assumption) | assumption); have q225 : x8_3 < (t220.length : Int) := of_decide_eq_true (by first | (with_reducible assumption) | assumption); obtain ⟨ad225, e225, hx225_0⟩ := Kd.at_int (Kd.R_reads' HO_7.out).2.2 x8_3 p225 q225; cases e225; replace p225 := eq_true p225; replace q225 := eq_true q225; have p226 : 0 ≤ (x8_3 : Int) := of_decide_eq_true (by first | (with_reducible assumption) | assumption); have q226 : x8_3 < (l0.length : Int) := of_decide_eq_true (by first | (with_reducible assumption) | assumption); obtain ⟨ad226, e226, hx226_0, hx226_1, hx226_2, hx226_3⟩ := at_T56 HR0.out x8_3 p226 q226; obtain rfl : ad218 = ad226 := (by injection e226); replace hx226_0 := (HB.out.cell (World.block_lt_of_cell? w _ hx226_0)).trans hx226_0; replace hx226_1 := (HB.out.cell (World.block_lt_of_cell? w _ hx226_1)).trans hx226_1; replace hx226_2 := (HB.out.cell (World.block_lt_of_cell? w _ hx226_2)).trans hx226_2; replace hx226_3 := (HB.out.cell (World.block_lt_of_cell? w _ hx226_3)).trans hx226_3; replace p226 := eq_true p226; replace q226 := eq_true q226)); try go_wp2_with (first | (go_at_call 45; (with_reducible refine (tamisref04_Kind.calls k3 ((rd_T56 l0 x8_3).f0) t224 _ A21.out).mono ?_); rintro e w27 ⟨rfl, hb⟩; have n0_ := Aside0.mk (Kd.R_below (by (with_reducible repeat (first | apply Kd.R_alloc | apply Kd.R_drewN | apply Kd.R_drew)); exact HO_7.out) hb); have n1_ := Aside0.mk (below_step (by repeat (first | (with_reducible first | exact HB.out | apply below_alloc | apply pw_below_drewN | apply below_drew1) | exact HB.out)) hb); clear HO_7; clear HB; have HO_7 := n0_; have HB := n1_; clear n0_ n1_; (try clear hb); (try clear hb2); (try clear hk); (try clear hi); obtain ⟨Ao28, co28, eo28⟩ := Kd.R_slice HO_7.out; subst eo28; have p225 : 0 ≤ (x8_3 : Int) := of_decide_eq_true (by first | (with_reducible assumption) | assumption); have q225 : x8_3 < (t220.length : Int) := of_decide_eq_true (by first | (with_reducible assumption) | assumption); obtain ⟨ad225, e225, hx225_0⟩ := Kd.at_int (Kd.R_reads' HO_7.out).2.2 x8_3 p225 q225; cases e225; replace p225 := eq_true p225; replace q225 := eq_true q225; have p226 : 0 ≤ (x8_3 : Int) := of_decide_eq_true (by first | (with_reducible assumption) | assumption); have q226 : x8_3 < (l0.length : Int) := of_decide_eq_true (by first | (with_reducible assumption) | assumption); obtain ⟨ad226, e226, hx226_0, hx226_1, hx226_2, hx226_3⟩ := at_T56 HR0.out x8_3 p226 q226; obtain rfl : ad218 = ad226 := (by injection e226); replace hx226_0 := (HB.out.cell (World.block_lt_of_cell? w _ hx226_0)).trans hx226_0; replace hx226_1 := (HB.out.cell (World.block_lt_of_cell? w _ hx226_1)).trans hx226_1; replace hx226_2 := (HB.out.cell (World.block_lt_of_cell? w _ hx226_2)).trans hx226_2; replace hx226_3 := (HB.out.cell (World.block_lt_of_cell? w _ hx226_3)).trans hx226_3; replace p226 := eq_true p226; replace q226 := eq_true q226)))
                                      go_ret2
                                      exact ⟨by first | rfl | (simp [errW_none, errW_some] <;> rfl) | (simp only [← hji9, ← hji25]; first | rfl | (simp [errW_none, errW_some] <;> rfl)) | (simp [*, errW_none, errW_some] <;> rfl), by repeat (first | (with_reducible first | exact HB.out | apply below_alloc | apply pw_below_drewN | apply below_drew1) | exact HB.out)⟩
                                    · rw [if_neg c26] at H
                                      have c26b0 : ((Go.bits .and .u16 (ji25) 1) == 0) = false := beq_eq_false_iff_ne.mpr c26
                                      have c26b1 : ((Go.bits .and .u16 (ji25) 1) != 0) = true := bne_iff_ne.mpr c26
                                      have H' := Aside0.mk H
                                      clear H
                                      have p223 : 0 ≤ (x8_3 : Int) := of_decide_eq_true (by first | (with_reducible assumption) | assumption)
                                      have q223 : x8_3 < (l0.length : Int) := of_decide_eq_true (by first | (with_reducible assumption) | assumption)
                                      obtain ⟨ad223, e223, hx223_0, hx223_1, hx223_2, hx223_3⟩ := at_T56 HR0.out x8_3 p223 q223
                                      obtain rfl : ad218 = ad223 := (by injection e223)
                                      replace hx223_0 := (HB.out.cell (World.block_lt_of_cell? w _ hx223_0)).trans hx223_0
                                      replace hx223_1 := (HB.out.cell (World.block_lt_of_cell? w _ hx223_1)).trans hx223_1
                                      replace hx223_2 := (HB.out.cell (World.block_lt_of_cell? w _ hx223_2)).trans hx223_2
                                      replace hx223_3 := (HB.out.cell (World.block_lt_of_cell? w _ hx223_3)).trans hx223_3
                                      replace p223 := eq_true p223
                                      replace q223 := eq_true q223
                                      go_wp2_with (first | (go_at_call 45; (with_reducible refine (tamisref04_Kind.calls k3 ((rd_T56 l0 x8_3).f0) t224 _ A21.out).mono ?_); rintro e w29 ⟨rfl, hb⟩; have n0_ := Aside0.mk (Kd.R_below (by (with_reducible repeat (first | apply Kd.R_alloc | apply Kd.R_drewN | apply Kd.R_drew)); exact HO_7.out) hb); have n1_ := Aside0.mk (below_step (by repeat (first | (with_reducible first | exact HB.out | apply below_alloc | apply pw_below_drewN | apply below_drew1) | exact HB.out)) hb); clear HO_7; clear HB; have HO_7 := n0_; have HB := n1_; clear n0_ n1_; (try clear hb); (try clear hb2); (try clear hk); (try clear hi); obtain ⟨Ao30, co30, eo30⟩ := Kd.R_slice HO_7.out; subst eo30; have p225 : 0 ≤ (x8_3 : Int) := of_decide_eq_true (by first | (with_reducible assumption) | assumption); have q225 : x8_3 < (t220.length : Int) := of_decide_eq_true (by first | (with_reducible assumption) | assumption); obtain ⟨ad225, e225, hx225_0⟩ := Kd.at_int (Kd.R_reads' HO_7.out).2.2 x8_3 p225 q225; cases e225; replace p225 := eq_true p225; replace q225 := eq_true q225; have p226 : 0 ≤ (x8_3 : Int) := of_decide_eq_true (by first | (with_reducible assumption) | assumption); have q226 : x8_3 < (l0.length : Int) := of_decide_eq_true (by first | (with_reducible assumption) | assumption); obtain ⟨ad226, e226, hx226_0, hx226_1, hx226_2, hx226_3⟩ := at_T56 HR0.out x8_3 p226 q226; obtain rfl : ad218 = ad226 := (by injection e226); replace hx226_0 := (HB.out.cell (World.block_lt_of_cell? w _ hx226_0)).trans hx226_0; replace hx226_1 := (HB.out.cell (World.block_lt_of_cell? w _ hx226_1)).trans hx226_1; replace hx226_2 := (HB.out.cell (World.block_lt_of_cell? w _ hx226_2)).trans hx226_2; replace hx226_3 := (HB.out.cell (World.block_lt_of_cell? w _ hx226_3)).trans hx226_3; replace p226 := eq_true p226; replace q226 := eq_true q226))
                                      repeat (go_quiet (first | (go_at_call 45; (with_reducible refine (tamisref04_Kind.calls k3 ((rd_T56 l0 x8_3).f0) t224 _ A21.out).mono ?_); rintro e w29 ⟨rfl, hb⟩; have n0_ := Aside0.mk (Kd.R_below (by (with_reducible repeat (first | apply Kd.R_alloc | apply Kd.R_drewN | apply Kd.R_drew)); exact HO_7.out) hb); have n1_ := Aside0.mk (below_step (by repeat (first | (with_reducible first | exact HB.out | apply below_alloc | apply pw_below_drewN | apply below_drew1) | exact HB.out)) hb); clear HO_7; clear HB; have HO_7 := n0_; have HB := n1_; clear n0_ n1_; (try clear hb); (try clear hb2); (try clear hk); (try clear hi); obtain ⟨Ao30, co30, eo30⟩ := Kd.R_slice HO_7.out; subst eo30; have p225 : 0 ≤ (x8_3 : Int) := of_decide_eq_true (by first | (with_reducible assumption) | assumption); have q225 : x8_3 < (t220.length : Int) := of_decide_eq_true (by first | (with_reducible assumption) | assumption); obtain ⟨ad225, e225, hx225_0⟩ := Kd.at_int (Kd.R_reads' HO_7.out).2.2 x8_3 p225 q225; cases e225; replace p225 := eq_true p225; replace q225 := eq_true q225; have p226 : 0 ≤ (x8_3 : Int) := of_decide_eq_true (by first | (with_reducible assumption) | assumption); have q226 : x8_3 < (l0.length : Int) := of_decide_eq_true (by first | (with_reducible assumption) | assumption); obtain ⟨ad226, e226, hx226_0, hx226_1, hx226_2, hx226_3⟩ := at_T56 HR0.out x8_3 p226 q226; obtain rfl : ad218 = ad226 := (by injection e226); replace hx226_0 := (HB.out.cell (World.block_lt_of_cell? w _ hx226_0)).trans hx226_0; replace hx226_1 := (HB.out.cell (World.block_lt_of_cell? w _ hx226_1)).trans hx226_1; replace hx226_2 := (HB.out.cell (World.block_lt_of_cell? w _ hx226_2)).trans hx226_2; replace hx226_3 := (HB.out.cell (World.block_lt_of_cell? w _ hx226_3)).trans hx226_3; replace p226 := eq_true p226; replace q226 := eq_true q226)); try go_wp2_with (first | (go_at_call 45; (with_reducible refine (tamisref04_Kind.calls k3 ((rd_T56 l0 x8_3).f0) t224 _ A21.out).mono ?_); rintro e w29 ⟨rfl, hb⟩; have n0_ := Aside0.mk (Kd.R_below (by (with_reducible repeat (first | apply Kd.R_alloc | apply Kd.R_drewN | apply Kd.R_drew)); exact HO_7.out) hb); have n1_ := Aside0.mk (below_step (by repeat (first | (with_reducible first | exact HB.out | apply below_alloc | apply pw_below_drewN | apply below_drew1) | exact HB.out)) hb); clear HO_7; clear HB; have HO_7 := n0_; have HB := n1_; clear n0_ n1_; (try clear hb); (try clear hb2); (try clear hk); (try clear hi); obtain ⟨Ao30, co30, eo30⟩ := Kd.R_slice HO_7.out; subst eo30; have p225 : 0 ≤ (x8_3 : Int) := of_decide_eq_true (by first | (with_reducible assumption) | assumption); have q225 : x8_3 < (t220.length : Int) := of_decide_eq_true (by first | (with_reducible assumption) | assumption); obtain ⟨ad225, e225, hx225_0⟩ := Kd.at_int (Kd.R_reads' HO_7.out).2.2 x8_3 p225 q225; cases e225; replace p225 := eq_true p225; replace q225 := eq_true q225; have p226 : 0 ≤ (x8_3 : Int) := of_decide_eq_true (by first | (with_reducible assumption) | assumption); have q226 : x8_3 < (l0.length : Int) := of_decide_eq_true (by first | (with_reducible assumption) | assumption); obtain ⟨ad226, e226, hx226_0, hx226_1, hx226_2, hx226_3⟩ := at_T56 HR0.out x8_3 p226 q226; obtain rfl : ad218 = ad226 := (by injection e226); replace hx226_0 := (HB.out.cell (World.block_lt_of_cell? w _ hx226_0)).trans hx226_0; replace hx226_1 := (HB.out.cell (World.block_lt_of_cell? w _ hx226_1)).trans hx226_1; replace hx226_2 := (HB.out.cell (World.block_lt_of_cell? w _ hx226_2)).trans hx226_2; replace hx226_3 := (HB.out.cell (World.block_lt_of_cell? w _ hx226_3)).trans hx226_3; replace p226 := eq_true p226; replace q226 := eq_true q226)))
                                      go_roundg k3
                                      case measure => have := HK1.out; have := HJ12.out; have := HK3.out; omega
                                      case rel => exact ⟨(wrap64 (x8_3 + 1)), (by first | rfl | (simp; done) | (simp [*]; done)), H', ⟨by have := HK1.out; have := HJ12.out; have := HK3.out; omega⟩, ⟨by (with_reducible repeat (first | apply Kd.R_alloc | apply Kd.R_drewN | apply Kd.R_drew)); exact HO_7.out⟩, ⟨by repeat (first | (with_reducible first | exact HB.out | apply below_alloc | apply pw_below_drewN | apply below_drew1) | exact HB.out)⟩⟩
                                  · rw [if_neg c24] at H
                                    exact absurd H (by simp)
                                · rw [if_neg c23] at H
                                  exact absurd H (by simp)
                              · rw [if_neg c22] at H
                                have c22b0 : (t224 == 4) = false := beq_eq_false_iff_ne.mpr c22
                                have c22b1 : (t224 != 4) = true := bne_iff_ne.mpr c22
                                by_cases c31 : t224 = 6
                                · rw [if_pos c31] at H
                                  have c31b0 : (t224 == 6) = true := beq_iff_eq.mpr c31
                                  have c31b1 : (t224 != 6) = false := bne_eq_false_iff_eq.mpr c31
                                  clear c31
                                  by_cases c32 : x8_3 < (t220.length : Int)
                                  · rw [if_pos c32] at H
                                    have c32b0 : decide (x8_3 < (t220.length : Int)) = true := decide_eq_true c32
                                    clear c32
                                    by_cases c33 : 0 ≤ ((rd_T56 l0 x8_3).f3)
                                    · rw [if_pos c33] at H
                                      have c33b0 := eq_true c33
                                      have c33b1 : decide (0 ≤ ((rd_T56 l0 x8_3).f3)) = true := decide_eq_true c33
                                      clear c33
                                      obtain ⟨ji34, hji34⟩ : ∃ j_ : Int, (shr .u16 (rd t220 x8_3) ((rd_T56 l0 x8_3).f3)) = j_ := ⟨_, rfl⟩
                                      replace H : (if (Go.bits .and .u16 (ji34) 1) = 0 then (some (x8_3, 10)) else (tamisref06_Check.l1 k3 l0 t220 (wrap64 (x8_3 + 1)))) = some (r1, r2) := by first | (rw [hji34] at H; exact H) | (simp only [hji34] at H ⊢; exact H)
                                      (try rw [hji34] at A21)
                                      have hji34_ : ((rd t220 x8_3) / 2 ^ min ((rd_T56 l0 x8_3).f3).toNat 16) = ji34 := hji34
                                      have hji34z : ((rd_T56 l0 x8_3).f3) ≤ 16 → ((rd t220 x8_3) / 2 ^ ((rd_T56 l0 x8_3).f3).toNat) = ji34 := shr_small hji34
                                      by_cases c35 : (Go.bits .and .u16 (ji34) 1) = 0
                                      · rw [if_pos c35] at H
                                        have c35b0 : ((Go.bits .and .u16 (ji34) 1) == 0) = true := beq_iff_eq.mpr c35
                                        have c35b1 : ((Go.bits .and .u16 (ji34) 1) != 0) = false := bne_eq_false_iff_eq.mpr c35
                                        clear c35
                                        simp only [Option.some.injEq, Prod.mk.injEq] at H
                                        obtain ⟨rfl, rfl⟩ := H
                                        have p223 : 0 ≤ (x8_3 : Int) := of_decide_eq_true (by first | (with_reducible assumption) | assumption)
                                        have q223 : x8_3 < (l0.length : Int) := of_decide_eq_true (by first | (with_reducible assumption) | assumption)
                                        obtain ⟨ad223, e223, hx223_0, hx223_1, hx223_2, hx223_3⟩ := at_T56 HR0.out x8_3 p223 q223
                                        obtain rfl : ad218 = ad223 := (by injection e223)
                                        replace hx223_0 := (HB.out.cell (World.block_lt_of_cell? w _ hx223_0)).trans hx223_0
                                        replace hx223_1 := (HB.out.cell (World.block_lt_of_cell? w _ hx223_1)).trans hx223_1
                                        replace hx223_2 := (HB.out.cell (World.block_lt_of_cell? w _ hx223_2)).trans hx223_2
                                        replace hx223_3 := (HB.out.cell (World.block_lt_of_cell? w _ hx223_3)).trans hx223_3
                                        replace p223 := eq_true p223
                                        replace q223 := eq_true q223
                                        go_wp2_with (first | (go_at_call 45; (with_reducible refine (tamisref04_Kind.calls k3 ((rd_T56 l0 x8_3).f0) t224 _ A21.out).mono ?_); rintro e w36 ⟨rfl, hb⟩; have n0_ := Aside0.mk (Kd.R_below (by (with_reducible repeat (first | apply Kd.R_alloc | apply Kd.R_drewN | apply Kd.R_drew)); exact HO_7.out) hb); have n1_ := Aside0.mk (below_step (by repeat (first | (with_reducible first | exact HB.out | apply below_alloc | apply pw_below_drewN | apply below_drew1) | exact HB.out)) hb); clear HO_7; clear HB; have HO_7 := n0_; have HB := n1_; clear n0_ n1_; (try clear hb); (try clear hb2); (try clear hk); (try clear hi); obtain ⟨Ao37, co37, eo37⟩ := Kd.R_slice HO_7.out; subst eo37; have p227 : 0 ≤ (x8_3 : Int) := of_decide_eq_true (by first | (with_reducible assumption) | assumption); have q227 : x8_3 < (t220.length : Int) := of_decide_eq_true (by first | (with_reducible assumption) | assumption); obtain ⟨ad227, e227, hx227_0⟩ := Kd.at_int (Kd.R_reads' HO_7.out).2.2 x8_3 p227 q227; cases e227; replace p227 := eq_true p227; replace q227 := eq_true q227; have p228 : 0 ≤ (x8_3 : Int) := of_decide_eq_true (by first | (with_reducible assumption) | assumption); have q228 : x8_3 < (l0.length : Int) := of_decide_eq_true (by first | (with_reducible assumption) | assumption); obtain ⟨ad228, e228, hx228_0, hx228_1, hx228_2, hx228_3⟩ := at_T56 HR0.out x8_3 p228 q228; obtain rfl : ad218 = ad228 := (by injection e228); replace hx228_0 := (HB.out.cell (World.block_lt_of_cell? w _ hx228_0)).trans hx228_0; replace hx228_1 := (HB.out.cell (World.block_lt_of_cell? w _ hx228_1)).trans hx228_1; replace hx228_2 := (HB.out.cell (World.block_lt_of_cell? w _ hx228_2)).trans hx228_2; replace hx228_3 := (HB.out.cell (World.block_lt_of_cell? w _ hx228_3)).trans hx228_3; replace p228 := eq_true p228; replace q228 := eq_true q228))
                                        repeat (go_quiet (first | (go_at_call 45; (with_reducible refine (tamisref04_Kind.calls k3 ((rd_T56 l0 x8_3).f0) t224 _ A21.out).mono ?_); rintro e w36 ⟨rfl, hb⟩; have n0_ := Aside0.mk (Kd.R_below (by (with_reducible repeat (first | apply Kd.R_alloc | apply Kd.R_drewN | apply Kd.R_drew)); exact HO_7.out) hb); have n1_ := Aside0.mk (below_step (by repeat (first | (with_reducible first | exact HB.out | apply below_alloc | apply pw_below_drewN | apply below_drew1) | exact HB.out)) hb); clear HO_7; clear HB; have HO_7 := n0_; have HB := n1_; clear n0_ n1_; (try clear hb); (try clear hb2); (try clear hk); (try clear hi); obtain ⟨Ao37, co37, eo37⟩ := Kd.R_slice HO_7.out; subst eo37; have p227 : 0 ≤ (x8_3 : Int) := of_decide_eq_true (by first | (with_reducible assumption) | assumption); have q227 : x8_3 < (t220.length : Int) := of_decide_eq_true (by first | (with_reducible assumption) | assumption); obtain ⟨ad227, e227, hx227_0⟩ := Kd.at_int (Kd.R_reads' HO_7.out).2.2 x8_3 p227 q227; cases e227; replace p227 := eq_true p227; replace q227 := eq_true q227; have p228 : 0 ≤ (x8_3 : Int) := of_decide_eq_true (by first | (with_reducible assumption) | assumption); have q228 : x8_3 < (l0.length : Int) := of_decide_eq_true (by first | (with_reducible assumption) | assumption); obtain ⟨ad228, e228, hx228_0, hx228_1, hx228_2, hx228_3⟩ := at_T56 HR0.out x8_3 p228 q228; obtain rfl : ad218 = ad228 := (by injection e228); replace hx228_0 := (HB.out.cell (World.block_lt_of_cell? w _ hx228_0)).trans hx228_0; replace hx228_1 := (HB.out.cell (World.block_lt_of_cell? w _ hx228_1)).trans hx228_1; replace hx228_2 := (HB.out.cell (World.block_lt_of_cell? w _ hx228_2)).trans hx228_2; replace hx228_3 := (HB.out.cell (World.block_lt_of_cell? w _ hx228_3)).trans hx228_3; replace p228 := eq_true p228; replace q228 := eq_true q228)); try go_wp2_with (first | (go_at_call 45; (with_reducible refine (tamisref04_Kind.calls k3 ((rd_T56 l0 x8_3).f0) t224 _ A21.out).mono ?_); rintro e w36 ⟨rfl, hb⟩; have n0_ := Aside0.mk (Kd.R_below (by (with_reducible repeat (first | apply Kd.R_alloc | apply Kd.R_drewN | apply Kd.R_drew)); exact HO_7.out) hb); have n1_ := Aside0.mk (below_step (by repeat (first | (with_reducible first | exact HB.out | apply below_alloc | apply pw_below_drewN | apply below_drew1) | exact HB.out)) hb); clear HO_7; clear HB; have HO_7 := n0_; have HB := n1_; clear n0_ n1_; (try clear hb); (try clear hb2); (try clear hk); (try clear hi); obtain ⟨Ao37, co37, eo37⟩ := Kd.R_slice HO_7.out; subst eo37; have p227 : 0 ≤ (x8_3 : Int) := of_decide_eq_true (by first | (with_reducible assumption) | assumption); have q227 : x8_3 < (t220.length : Int) := of_decide_eq_true (by first | (with_reducible assumption) | assumption); obtain ⟨ad227, e227, hx227_0⟩ := Kd.at_int (Kd.R_reads' HO_7.out).2.2 x8_3 p227 q227; cases e227; replace p227 := eq_true p227; replace q227 := eq_true q227; have p228 : 0 ≤ (x8_3 : Int) := of_decide_eq_true (by first | (with_reducible assumption) | assumption); have q228 : x8_3 < (l0.length : Int) := of_decide_eq_true (by first | (with_reducible assumption) | assumption); obtain ⟨ad228, e228, hx228_0, hx228_1, hx228_2, hx228_3⟩ := at_T56 HR0.out x8_3 p228 q228; obtain rfl : ad218 = ad228 := (by injection e228); replace hx228_0 := (HB.out.cell (World.block_lt_of_cell? w _ hx228_0)).trans hx228_0; replace hx228_1 := (HB.out.cell (World.block_lt_of_cell? w _ hx228_1)).trans hx228_1; replace hx228_2 := (HB.out.cell (World.block_lt_of_cell? w _ hx228_2)).trans hx228_2; replace hx228_3 := (HB.out.cell (World.block_lt_of_cell? w _ hx228_3)).trans hx228_3; replace p228 := eq_true p228; replace q228 := eq_true q228)))
                                        go_ret2
                                        exact ⟨by first | rfl | (simp [errW_none, errW_some] <;> rfl) | (simp only [← hji9, ← hji34]; first | rfl | (simp [errW_none, errW_some] <;> rfl)) | (simp [*, errW_none, errW_some] <;> rfl), by repeat (first | (with_reducible first | exact HB.out | apply below_alloc | apply pw_below_drewN | apply below_drew1) | exact HB.out)⟩
                                      · rw [if_neg c35] at H
                                        have c35b0 : ((Go.bits .and .u16 (ji34) 1) == 0) = false := beq_eq_false_iff_ne.mpr c35
                                        have c35b1 : ((Go.bits .and .u16 (ji34) 1) != 0) = true := bne_iff_ne.mpr c35
                                        have H' := Aside0.mk H
                                        clear H
                                        have p223 : 0 ≤ (x8_3 : Int) := of_decide_eq_true (by first | (with_reducible assumption) | assumption)
                                        have q223 : x8_3 < (l0.length : Int) := of_decide_eq_true (by first | (with_reducible assumption) | assumption)
                                        obtain ⟨ad223, e223, hx223_0, hx223_1, hx223_2, hx223_3⟩ := at_T56 HR0.out x8_3 p223 q223
                                        obtain rfl : ad218 = ad223 := (by injection e223)
                                        replace hx223_0 := (HB.out.cell (World.block_lt_of_cell? w _ hx223_0)).trans hx223_0
                                        replace hx223_1 := (HB.out.cell (World.block_lt_of_cell? w _ hx223_1)).trans hx223_1
                                        replace hx223_2 := (HB.out.cell (World.block_lt_of_cell? w _ hx223_2)).trans hx223_2
                                        replace hx223_3 := (HB.out.cell (World.block_lt_of_cell? w _ hx223_3)).trans hx223_3
                                        replace p223 := eq_true p223
                                        replace q223 := eq_true q223
                                        go_wp2_with (first | (go_at_call 45; (with_reducible refine (tamisref04_Kind.calls k3 ((rd_T56 l0 x8_3).f0) t224 _ A21.out).mono ?_); rintro e w38 ⟨rfl, hb⟩; have n0_ := Aside0.mk (Kd.R_below (by (with_reducible repeat (first | apply Kd.R_alloc | apply Kd.R_drewN | apply Kd.R_drew)); exact HO_7.out) hb); have n1_ := Aside0.mk (below_step (by repeat (first | (with_reducible first | exact HB.out | apply below_alloc | apply pw_below_drewN | apply below_drew1) | exact HB.out)) hb); clear HO_7; clear HB; have HO_7 := n0_; have HB := n1_; clear n0_ n1_; (try clear hb); (try clear hb2); (try clear hk); (try clear hi); obtain ⟨Ao39, co39, eo39⟩ := Kd.R_slice HO_7.out; subst eo39; have p227 : 0 ≤ (x8_3 : Int) := of_decide_eq_true (by first | (with_reducible assumption) | assumption); have q227 : x8_3 < (t220.length : Int) := of_decide_eq_true (by first | (with_reducible assumption) | assumption); obtain ⟨ad227, e227, hx227_0⟩ := Kd.at_int (Kd.R_reads' HO_7.out).2.2 x8_3 p227 q227; cases e227; replace p227 := eq_true p227; replace q227 := eq_true q227; have p228 : 0 ≤ (x8_3 : Int) := of_decide_eq_true (by first | (with_reducible assumption) | assumption); have q228 : x8_3 < (l0.length : Int) := of_decide_eq_true (by first | (with_reducible assumption) | assumption); obtain ⟨ad228, e228, hx228_0, hx228_1, hx228_2, hx228_3⟩ := at_T56 HR0.out x8_3 p228 q228; obtain rfl : ad218 = ad228 := (by injection e228); replace hx228_0 := (HB.out.cell (World.block_lt_of_cell? w _ hx228_0)).trans hx228_0; replace hx228_1 := (HB.out.cell (World.block_lt_of_cell? w _ hx228_1)).trans hx228_1; replace hx228_2 := (HB.out.cell (World.block_lt_of_cell? w _ hx228_2)).trans hx228_2; replace hx228_3 := (HB.out.cell (World.block_lt_of_cell? w _ hx228_3)).trans hx228_3; replace p228 := eq_true p228; replace q228 := eq_true q228))
                                        repeat (go_quiet (first | (go_at_call 45; (with_reducible refine (tamisref04_Kind.calls k3 ((rd_T56 l0 x8_3).f0) t224 _ A21.out).mono ?_); rintro e w38 ⟨rfl, hb⟩; have n0_ := Aside0.mk (Kd.R_below (by (with_reducible repeat (first | apply Kd.R_alloc | apply Kd.R_drewN | apply Kd.R_drew)); exact HO_7.out) hb); have n1_ := Aside0.mk (below_step (by repeat (first | (with_reducible first | exact HB.out | apply below_alloc | apply pw_below_drewN | apply below_drew1) | exact HB.out)) hb); clear HO_7; clear HB; have HO_7 := n0_; have HB := n1_; clear n0_ n1_; (try clear hb); (try clear hb2); (try clear hk); (try clear hi); obtain ⟨Ao39, co39, eo39⟩ := Kd.R_slice HO_7.out; subst eo39; have p227 : 0 ≤ (x8_3 : Int) := of_decide_eq_true (by first | (with_reducible assumption) | assumption); have q227 : x8_3 < (t220.length : Int) := of_decide_eq_true (by first | (with_reducible assumption) | assumption); obtain ⟨ad227, e227, hx227_0⟩ := Kd.at_int (Kd.R_reads' HO_7.out).2.2 x8_3 p227 q227; cases e227; replace p227 := eq_true p227; replace q227 := eq_true q227; have p228 : 0 ≤ (x8_3 : Int) := of_decide_eq_true (by first | (with_reducible assumption) | assumption); have q228 : x8_3 < (l0.length : Int) := of_decide_eq_true (by first | (with_reducible assumption) | assumption); obtain ⟨ad228, e228, hx228_0, hx228_1, hx228_2, hx228_3⟩ := at_T56 HR0.out x8_3 p228 q228; obtain rfl : ad218 = ad228 := (by injection e228); replace hx228_0 := (HB.out.cell (World.block_lt_of_cell? w _ hx228_0)).trans hx228_0; replace hx228_1 := (HB.out.cell (World.block_lt_of_cell? w _ hx228_1)).trans hx228_1; replace hx228_2 := (HB.out.cell (World.block_lt_of_cell? w _ hx228_2)).trans hx228_2; replace hx228_3 := (HB.out.cell (World.block_lt_of_cell? w _ hx228_3)).trans hx228_3; replace p228 := eq_true p228; replace q228 := eq_true q228)); try go_wp2_with (first | (go_at_call 45; (with_reducible refine (tamisref04_Kind.calls k3 ((rd_T56 l0 x8_3).f0) t224 _ A21.out).mono ?_); rintro e w38 ⟨rfl, hb⟩; have n0_ := Aside0.mk (Kd.R_below (by (with_reducible repeat (first | apply Kd.R_alloc | apply Kd.R_drewN | apply Kd.R_drew)); exact HO_7.out) hb); have n1_ := Aside0.mk (below_step (by repeat (first | (with_reducible first | exact HB.out | apply below_alloc | apply pw_below_drewN | apply below_drew1) | exact HB.out)) hb); clear HO_7; clear HB; have HO_7 := n0_; have HB := n1_; clear n0_ n1_; (try clear hb); (try clear hb2); (try clear hk); (try clear hi); obtain ⟨Ao39, co39, eo39⟩ := Kd.R_slice HO_7.out; subst eo39; have p227 : 0 ≤ (x8_3 : Int) := of_decide_eq_true (by first | (with_reducible assumption) | assumption); have q227 : x8_3 < (t220.length : Int) := of_decide_eq_true (by first | (with_reducible assumption) | assumption); obtain ⟨ad227, e227, hx227_0⟩ := Kd.at_int (Kd.R_reads' HO_7.out).2.2 x8_3 p227 q227; cases e227; replace p227 := eq_true p227; replace q227 := eq_true q227; have p228 : 0 ≤ (x8_3 : Int) := of_decide_eq_true (by first | (with_reducible assumption) | assumption); have q228 : x8_3 < (l0.length : Int) := of_decide_eq_true (by first | (with_reducible assumption) | assumption); obtain ⟨ad228, e228, hx228_0, hx228_1, hx228_2, hx228_3⟩ := at_T56 HR0.out x8_3 p228 q228; obtain rfl : ad218 = ad228 := (by injection e228); replace hx228_0 := (HB.out.cell (World.block_lt_of_cell? w _ hx228_0)).trans hx228_0; replace hx228_1 := (HB.out.cell (World.block_lt_of_cell? w _ hx228_1)).trans hx228_1; replace hx228_2 := (HB.out.cell (World.block_lt_of_cell? w _ hx228_2)).trans hx228_2; replace hx228_3 := (HB.out.cell (World.block_lt_of_cell? w _ hx228_3)).trans hx228_3; replace p228 := eq_true p228; replace q228 := eq_true q228)))
                                        go_roundg k3
                                        case measure => have := HK1.out; have := HJ12.out; have := HK3.out; omega
                                        case rel => exact ⟨(wrap64 (x8_3 + 1)), (by first | rfl | (simp; done) | (simp [*]; done)), H', ⟨by have := HK1.out; have := HJ12.out; have := HK3.out; omega⟩, ⟨by (with_reducible repeat (first | apply Kd.R_alloc | apply Kd.R_drewN | apply Kd.R_drew)); exact HO_7.out⟩, ⟨by repeat (first | (with_reducible first | exact HB.out | apply below_alloc | apply pw_below_drewN | apply below_drew1) | exact HB.out)⟩⟩
                                    · rw [if_neg c33] at H
                                      exact absurd H (by simp)
                                  · rw [if_neg c32] at H
                                    exact absurd H (by simp)
                                · rw [if_neg c31] at H
                                  have c31b0 : (t224 == 6) = false := beq_eq_false_iff_ne.mpr c31
                                  have c31b1 : (t224 != 6) = true := bne_iff_ne.mpr c31
                                  have H' := Aside0.mk H
                                  clear H
                                  have p223 : 0 ≤ (x8_3 : Int) := of_decide_eq_true (by first | (with_reducible assumption) | assumption)
                                  have q223 : x8_3 < (l0.length : Int) := of_decide_eq_true (by first | (with_reducible assumption) | assumption)
                                  obtain ⟨ad223, e223, hx223_0, hx223_1, hx223_2, hx223_3⟩ := at_T56 HR0.out x8_3 p223 q223
                                  obtain rfl : ad218 = ad223 := (by injection e223)
                                  replace hx223_0 := (HB.out.cell (World.block_lt_of_cell? w _ hx223_0)).trans hx223_0
                                  replace hx223_1 := (HB.out.cell (World.block_lt_of_cell? w _ hx223_1)).trans hx223_1
                                  replace hx223_2 := (HB.out.cell (World.block_lt_of_cell? w _ hx223_2)).trans hx223_2
                                  replace hx223_3 := (HB.out.cell (World.block_lt_of_cell? w _ hx223_3)).trans hx223_3
                                  replace p223 := eq_true p223
                                  replace q223 := eq_true q223
                                  go_wp2_with (first | (go_at_call 45; (with_reducible refine (tamisref04_Kind.calls k3 ((rd_T56 l0 x8_3).f0) t224 _ A21.out).mono ?_); rintro e w40 ⟨rfl, hb⟩; have n0_ := Aside0.mk (Kd.R_below (by (with_reducible repeat (first | apply Kd.R_alloc | apply Kd.R_drewN | apply Kd.R_drew)); exact HO_7.out) hb); have n1_ := Aside0.mk (below_step (by repeat (first | (with_reducible first | exact HB.out | apply below_alloc | apply pw_below_drewN | apply below_drew1) | exact HB.out)) hb); clear HO_7; clear HB; have HO_7 := n0_; have HB := n1_; clear n0_ n1_; (try clear hb); (try clear hb2); (try clear hk); (try clear hi)))
                                  repeat (go_quiet (first | (go_at_call 45; (with_reducible refine (tamisref04_Kind.calls k3 ((rd_T56 l0 x8_3).f0) t224 _ A21.out).mono ?_); rintro e w40 ⟨rfl, hb⟩; have n0_ := Aside0.mk (Kd.R_below (by (with_reducible repeat (first | apply Kd.R_alloc | apply Kd.R_drewN | apply Kd.R_drew)); exact HO_7.out) hb); have n1_ := Aside0.mk (below_step (by repeat (first | (with_reducible first | exact HB.out | apply below_alloc | apply pw_below_drewN | apply below_drew1) | exact HB.out)) hb); clear HO_7; clear HB; have HO_7 := n0_; have HB := n1_; clear n0_ n1_; (try clear hb); (try clear hb2); (try clear hk); (try clear hi))); try go_wp2_with (first | (go_at_call 45; (with_reducible refine (tamisref04_Kind.calls k3 ((rd_T56 l0 x8_3).f0) t224 _ A21.out).mono ?_); rintro e w40 ⟨rfl, hb⟩; have n0_ := Aside0.mk (Kd.R_below (by (with_reducible repeat (first | apply Kd.R_alloc | apply Kd.R_drewN | apply Kd.R_drew)); exact HO_7.out) hb); have n1_ := Aside0.mk (below_step (by repeat (first | (with_reducible first | exact HB.out | apply below_alloc | apply pw_below_drewN | apply below_drew1) | exact HB.out)) hb); clear HO_7; clear HB; have HO_7 := n0_; have HB := n1_; clear n0_ n1_; (try clear hb); (try clear hb2); (try clear hk); (try clear hi))))
                                  go_roundg k3
                                  case measure => have := HK1.out; have := HJ12.out; have := HK3.out; omega
                                  case rel => exact ⟨(wrap64 (x8_3 + 1)), (by first | rfl | (simp; done) | (simp [*]; done)), H', ⟨by have := HK1.out; have := HJ12.out; have := HK3.out; omega⟩, ⟨by (with_reducible repeat (first | apply Kd.R_alloc | apply Kd.R_drewN | apply Kd.R_drew)); exact HO_7.out⟩, ⟨by repeat (first | (with_reducible first | exact HB.out | apply below_alloc | apply pw_below_drewN | apply below_drew1) | exact HB.out)⟩⟩
                            · rw [if_neg c20] at H
                              exact absurd H (by simp)
                          · rw [if_neg c19] at H
                            have c19b0 : decide (x8_3 < (l0.length : Int)) = false := decide_eq_false c19
                            clear c19
                            simp only [Option.some.injEq, Prod.mk.injEq] at H
                            obtain ⟨rfl, rfl⟩ := H
                            go_wp2
                            repeat (go_quiet (fail); try go_wp2)
                            go_ret2
                            exact ⟨by first | rfl | (simp [errW_none, errW_some] <;> rfl) | (simp only [← hji9]; first | rfl | (simp [errW_none, errW_some] <;> rfl)) | (simp [*, errW_none, errW_some] <;> rfl), by repeat (first | (with_reducible first | exact HB.out | apply below_alloc | apply pw_below_drewN | apply below_drew1) | exact HB.out)⟩
              · rw [if_neg c11] at H
                exact absurd H (by simp)
            · rw [if_neg c10] at H
              exact absurd H (by simp)

end Go.Proofs.Ytmjpibeiglicdaa.X
