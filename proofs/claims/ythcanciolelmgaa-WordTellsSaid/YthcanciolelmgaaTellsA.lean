/- The first functions that WordTells reaches; begun from the print's text (the loop's end of tamisref01.both is by hand). -/
import Derived.Test.YthcanciolelmgaaPWordTellsx0
namespace Go.Proofs.Ythcanciolelmgaa.PWordTells
open Go.RowKit Go.Proofs.YthcanciolelmgaaW.PrintWords Go.Proofs.YthcanciolelmgaaW.PrintLast Go.Proofs.YthcanciolelmgaaW.PrintMore
attribute [local go_sem] max2_int min2_int max_two min_two max_three min_three max_four min_four   -- for this text's walks alone
set_option linter.unusedVariables false
set_option linter.unusedSimpArgs false

/-! ### word_Alu: function 12 -/
def word_Alu.f (a0 : Int) (a1 : Int) (a2 : Int) : Option (Int × Bool) := if a0 = 0 then (some ((a1 + a2) % 4294967296, true)) else (if a0 = 16 then (some ((a1 - a2) % 4294967296, true)) else (if a0 = 32 then (some ((a1 * a2) % 4294967296, true)) else (if a0 = 48 then (if a2 = 0 then (some (0, false)) else (some ((Int.tdiv a1 a2) % 4294967296, true))) else (if a0 = 64 then (some (Go.bits .or .u32 a1 a2, true)) else (if a0 = 80 then (some (Go.bits .and .u32 a1 a2, true)) else (if a0 = 96 then (if 0 ≤ (Go.bits .and .u32 a2 31) then (some (shl .u32 a1 (Go.bits .and .u32 a2 31), true)) else (none)) else (if a0 = 112 then (if 0 ≤ (Go.bits .and .u32 a2 31) then (some (shr .u32 a1 (Go.bits .and .u32 a2 31), true)) else (none)) else (if a0 = 128 then (some ((-a1) % 4294967296, true)) else (if a0 = 160 then (some (Go.bits .xor .u32 a1 a2, true)) else (some (0, false)))))))))))
set_option maxHeartbeats 8000000 in
set_option maxRecDepth 100000 in
theorem word_Alu.calls (a0 : Int) (a1 : Int) (a2 : Int) (r1 : Int) (r2 : Bool) (w : World) (h : word_Alu.f a0 a1 a2 = some (r1, r2)) :
    Calls Try.prog 12 #[.int .i64 a0, .int .u32 a1, .int .u32 a2] w fun e w' => e = .returned (.tuple #[.int .u32 r1, .bool r2]) ∧ Drawn0 w w' := by
  have H : (if a0 = 0 then (some ((a1 + a2) % 4294967296, true)) else (if a0 = 16 then (some ((a1 - a2) % 4294967296, true)) else (if a0 = 32 then (some ((a1 * a2) % 4294967296, true)) else (if a0 = 48 then (if a2 = 0 then (some (0, false)) else (some ((Int.tdiv a1 a2) % 4294967296, true))) else (if a0 = 64 then (some (Go.bits .or .u32 a1 a2, true)) else (if a0 = 80 then (some (Go.bits .and .u32 a1 a2, true)) else (if a0 = 96 then (if 0 ≤ (Go.bits .and .u32 a2 31) then (some (shl .u32 a1 (Go.bits .and .u32 a2 31), true)) else (none)) else (if a0 = 112 then (if 0 ≤ (Go.bits .and .u32 a2 31) then (some (shr .u32 a1 (Go.bits .and .u32 a2 31), true)) else (none)) else (if a0 = 128 then (some ((-a1) % 4294967296, true)) else (if a0 = 160 then (some (Go.bits .xor .u32 a1 a2, true)) else (some (0, false)))))))))))) = some (r1, r2) := h
  clear h
  by_cases c4 : a0 = 0
  · rw [if_pos c4] at H
    have c4b0 : (a0 == 0) = true := beq_iff_eq.mpr c4
    have c4b1 : (a0 != 0) = false := bne_eq_false_iff_eq.mpr c4
    clear c4
    simp only [Option.some.injEq, Prod.mk.injEq] at H
    obtain ⟨rfl, rfl⟩ := H
    go_enter Try.func12, Try.ntmps12
    go_wp2
    go_ret2
    exact ⟨by first | rfl | (simp; done) | (simp [*]; done), by repeat (first | exact Drawn0.refl _ | apply Drawn0.step)⟩
  · rw [if_neg c4] at H
    have c4b0 : (a0 == 0) = false := beq_eq_false_iff_ne.mpr c4
    have c4b1 : (a0 != 0) = true := bne_iff_ne.mpr c4
    by_cases c5 : a0 = 16
    · rw [if_pos c5] at H
      have c5b0 : (a0 == 16) = true := beq_iff_eq.mpr c5
      have c5b1 : (a0 != 16) = false := bne_eq_false_iff_eq.mpr c5
      clear c5
      simp only [Option.some.injEq, Prod.mk.injEq] at H
      obtain ⟨rfl, rfl⟩ := H
      go_enter Try.func12, Try.ntmps12
      go_wp2
      go_ret2
      exact ⟨by first | rfl | (simp; done) | (simp [*]; done), by repeat (first | exact Drawn0.refl _ | apply Drawn0.step)⟩
    · rw [if_neg c5] at H
      have c5b0 : (a0 == 16) = false := beq_eq_false_iff_ne.mpr c5
      have c5b1 : (a0 != 16) = true := bne_iff_ne.mpr c5
      by_cases c6 : a0 = 32
      · rw [if_pos c6] at H
        have c6b0 : (a0 == 32) = true := beq_iff_eq.mpr c6
        have c6b1 : (a0 != 32) = false := bne_eq_false_iff_eq.mpr c6
        clear c6
        simp only [Option.some.injEq, Prod.mk.injEq] at H
        obtain ⟨rfl, rfl⟩ := H
        go_enter Try.func12, Try.ntmps12
        go_wp2
        go_ret2
        exact ⟨by first | rfl | (simp; done) | (simp [*]; done), by repeat (first | exact Drawn0.refl _ | apply Drawn0.step)⟩
      · rw [if_neg c6] at H
        have c6b0 : (a0 == 32) = false := beq_eq_false_iff_ne.mpr c6
        have c6b1 : (a0 != 32) = true := bne_iff_ne.mpr c6
        by_cases c7 : a0 = 48
        · rw [if_pos c7] at H
          have c7b0 : (a0 == 48) = true := beq_iff_eq.mpr c7
          have c7b1 : (a0 != 48) = false := bne_eq_false_iff_eq.mpr c7
          clear c7
          by_cases c8 : a2 = 0
          · rw [if_pos c8] at H
            have c8b0 : (a2 == 0) = true := beq_iff_eq.mpr c8
            have c8b1 : (a2 != 0) = false := bne_eq_false_iff_eq.mpr c8
            clear c8
            simp only [Option.some.injEq, Prod.mk.injEq] at H
            obtain ⟨rfl, rfl⟩ := H
            go_enter Try.func12, Try.ntmps12
            go_wp2
            go_ret2
            exact ⟨by first | rfl | (simp; done) | (simp [*]; done), by repeat (first | exact Drawn0.refl _ | apply Drawn0.step)⟩
          · rw [if_neg c8] at H
            have c8b0 : (a2 == 0) = false := beq_eq_false_iff_ne.mpr c8
            have c8b1 : (a2 != 0) = true := bne_iff_ne.mpr c8
            simp only [Option.some.injEq, Prod.mk.injEq] at H
            obtain ⟨rfl, rfl⟩ := H
            go_enter Try.func12, Try.ntmps12
            go_wp2
            go_ret2
            exact ⟨by first | rfl | (simp; done) | (simp [*]; done), by repeat (first | exact Drawn0.refl _ | apply Drawn0.step)⟩
        · rw [if_neg c7] at H
          have c7b0 : (a0 == 48) = false := beq_eq_false_iff_ne.mpr c7
          have c7b1 : (a0 != 48) = true := bne_iff_ne.mpr c7
          by_cases c9 : a0 = 64
          · rw [if_pos c9] at H
            have c9b0 : (a0 == 64) = true := beq_iff_eq.mpr c9
            have c9b1 : (a0 != 64) = false := bne_eq_false_iff_eq.mpr c9
            clear c9
            simp only [Option.some.injEq, Prod.mk.injEq] at H
            obtain ⟨rfl, rfl⟩ := H
            go_enter Try.func12, Try.ntmps12
            go_wp2
            go_ret2
            exact ⟨by first | rfl | (simp; done) | (simp [*]; done), by repeat (first | exact Drawn0.refl _ | apply Drawn0.step)⟩
          · rw [if_neg c9] at H
            have c9b0 : (a0 == 64) = false := beq_eq_false_iff_ne.mpr c9
            have c9b1 : (a0 != 64) = true := bne_iff_ne.mpr c9
            by_cases c10 : a0 = 80
            · rw [if_pos c10] at H
              have c10b0 : (a0 == 80) = true := beq_iff_eq.mpr c10
              have c10b1 : (a0 != 80) = false := bne_eq_false_iff_eq.mpr c10
              clear c10
              simp only [Option.some.injEq, Prod.mk.injEq] at H
              obtain ⟨rfl, rfl⟩ := H
              go_enter Try.func12, Try.ntmps12
              go_wp2
              go_ret2
              exact ⟨by first | rfl | (simp; done) | (simp [*]; done), by repeat (first | exact Drawn0.refl _ | apply Drawn0.step)⟩
            · rw [if_neg c10] at H
              have c10b0 : (a0 == 80) = false := beq_eq_false_iff_ne.mpr c10
              have c10b1 : (a0 != 80) = true := bne_iff_ne.mpr c10
              by_cases c11 : a0 = 96
              · rw [if_pos c11] at H
                have c11b0 : (a0 == 96) = true := beq_iff_eq.mpr c11
                have c11b1 : (a0 != 96) = false := bne_eq_false_iff_eq.mpr c11
                clear c11
                by_cases c12 : 0 ≤ (Go.bits .and .u32 a2 31)
                · rw [if_pos c12] at H
                  have c12b0 := eq_true c12
                  have c12b1 : decide (0 ≤ (Go.bits .and .u32 a2 31)) = true := decide_eq_true c12
                  clear c12
                  obtain ⟨ji13, hji13⟩ : ∃ j_ : Int, (shl .u32 a1 (Go.bits .and .u32 a2 31)) = j_ := ⟨_, rfl⟩
                  replace H : (some (ji13, true)) = some (r1, r2) := by first | (rw [hji13] at H; exact H) | (simp only [hji13] at H ⊢; exact H)
                  have hji13_ : (IntKind.u32.wrap (a1 * 2 ^ min (Go.bits .and .u32 a2 31).toNat 32)) = ji13 := hji13
                  have hji13z : (Go.bits .and .u32 a2 31) ≤ 32 → (IntKind.u32.wrap (a1 * 2 ^ (Go.bits .and .u32 a2 31).toNat)) = ji13 := shl_small hji13
                  simp only [Option.some.injEq, Prod.mk.injEq] at H
                  obtain ⟨rfl, rfl⟩ := H
                  go_enter Try.func12, Try.ntmps12
                  go_wp2
                  go_ret2
                  exact ⟨by first | rfl | (simp; done) | (simp only [← hji13] <;> (first | rfl | simp)) | (simp [*]; done), by repeat (first | exact Drawn0.refl _ | apply Drawn0.step)⟩
                · rw [if_neg c12] at H
                  exact absurd H (by simp)
              · rw [if_neg c11] at H
                have c11b0 : (a0 == 96) = false := beq_eq_false_iff_ne.mpr c11
                have c11b1 : (a0 != 96) = true := bne_iff_ne.mpr c11
                by_cases c14 : a0 = 112
                · rw [if_pos c14] at H
                  have c14b0 : (a0 == 112) = true := beq_iff_eq.mpr c14
                  have c14b1 : (a0 != 112) = false := bne_eq_false_iff_eq.mpr c14
                  clear c14
                  by_cases c15 : 0 ≤ (Go.bits .and .u32 a2 31)
                  · rw [if_pos c15] at H
                    have c15b0 := eq_true c15
                    have c15b1 : decide (0 ≤ (Go.bits .and .u32 a2 31)) = true := decide_eq_true c15
                    clear c15
                    obtain ⟨ji16, hji16⟩ : ∃ j_ : Int, (shr .u32 a1 (Go.bits .and .u32 a2 31)) = j_ := ⟨_, rfl⟩
                    replace H : (some (ji16, true)) = some (r1, r2) := by first | (rw [hji16] at H; exact H) | (simp only [hji16] at H ⊢; exact H)
                    have hji16_ : (a1 / 2 ^ min (Go.bits .and .u32 a2 31).toNat 32) = ji16 := hji16
                    have hji16z : (Go.bits .and .u32 a2 31) ≤ 32 → (a1 / 2 ^ (Go.bits .and .u32 a2 31).toNat) = ji16 := shr_small hji16
                    simp only [Option.some.injEq, Prod.mk.injEq] at H
                    obtain ⟨rfl, rfl⟩ := H
                    go_enter Try.func12, Try.ntmps12
                    go_wp2
                    go_ret2
                    exact ⟨by first | rfl | (simp; done) | (simp only [← hji16] <;> (first | rfl | simp)) | (simp [*]; done), by repeat (first | exact Drawn0.refl _ | apply Drawn0.step)⟩
                  · rw [if_neg c15] at H
                    exact absurd H (by simp)
                · rw [if_neg c14] at H
                  have c14b0 : (a0 == 112) = false := beq_eq_false_iff_ne.mpr c14
                  have c14b1 : (a0 != 112) = true := bne_iff_ne.mpr c14
                  by_cases c17 : a0 = 128
                  · rw [if_pos c17] at H
                    have c17b0 : (a0 == 128) = true := beq_iff_eq.mpr c17
                    have c17b1 : (a0 != 128) = false := bne_eq_false_iff_eq.mpr c17
                    clear c17
                    simp only [Option.some.injEq, Prod.mk.injEq] at H
                    obtain ⟨rfl, rfl⟩ := H
                    go_enter Try.func12, Try.ntmps12
                    go_wp2
                    go_ret2
                    exact ⟨by first | rfl | (simp; done) | (simp [*]; done), by repeat (first | exact Drawn0.refl _ | apply Drawn0.step)⟩
                  · rw [if_neg c17] at H
                    have c17b0 : (a0 == 128) = false := beq_eq_false_iff_ne.mpr c17
                    have c17b1 : (a0 != 128) = true := bne_iff_ne.mpr c17
                    by_cases c18 : a0 = 160
                    · rw [if_pos c18] at H
                      have c18b0 : (a0 == 160) = true := beq_iff_eq.mpr c18
                      have c18b1 : (a0 != 160) = false := bne_eq_false_iff_eq.mpr c18
                      clear c18
                      simp only [Option.some.injEq, Prod.mk.injEq] at H
                      obtain ⟨rfl, rfl⟩ := H
                      go_enter Try.func12, Try.ntmps12
                      go_wp2
                      go_ret2
                      exact ⟨by first | rfl | (simp; done) | (simp [*]; done), by repeat (first | exact Drawn0.refl _ | apply Drawn0.step)⟩
                    · rw [if_neg c18] at H
                      have c18b0 : (a0 == 160) = false := beq_eq_false_iff_ne.mpr c18
                      have c18b1 : (a0 != 160) = true := bne_iff_ne.mpr c18
                      simp only [Option.some.injEq, Prod.mk.injEq] at H
                      obtain ⟨rfl, rfl⟩ := H
                      go_enter Try.func12, Try.ntmps12
                      go_wp2
                      go_ret2
                      exact ⟨by first | rfl | (simp; done) | (simp [*]; done), by repeat (first | exact Drawn0.refl _ | apply Drawn0.step)⟩

/-! ### tamisref01_bits: function 30 -/
def tamisref01_bits.l0 : Nat → Int → List Int → Int → Option (List Int)
  | 0, _, _, _ => none
  | k + 1, x0, x3, x4 => if x4 < 64 then (if 0 ≤ x4 then (if x3.length < 17592186044416 then (tamisref01_bits.l0 k x0 (x3 ++ [wrap64 (Int.tmod (shr .u64 x0 x4) 2)]) (wrap64 (x4 + 1))) else (none)) else (none)) else (some x3)
def tamisref01_bits.f (k : Nat) (a0 : Int) : Option (List Int) := tamisref01_bits.l0 k a0 ([] : List Int) 0
theorem tamisref01_bits.mono_l : ∀ k, (∀ y0 y1 y2, LeO (tamisref01_bits.l0 k y0 y1 y2) (tamisref01_bits.l0 (k + 1) y0 y1 y2))
  | 0 => fun _ _ _ r h => by simp [tamisref01_bits.l0] at h
  | k + 1 => by
    have ih0 := tamisref01_bits.mono_l k
    · intro y0 y1 y2
      unfold tamisref01_bits.l0
      repeat' first
      | (with_reducible exact ih0 _ _ _)
      | (with_reducible exact LeO.refl _)
      | (with_reducible exact LeO.none _)
      | (with_reducible refine LeO.ite ?_ ?_)
      | (with_reducible refine LeO.bind ?_ (fun _ => ?_))
      | exact ih0 _ _ _
      | exact LeO.none _
      | refine LeO.ite ?_ ?_
      | refine LeO.bind ?_ (fun _ => ?_)
theorem tamisref01_bits.mono : ∀ a0 k, LeO (tamisref01_bits.f k a0) (tamisref01_bits.f (k + 1) a0) := by
  intro a0 k
  have ih0 := tamisref01_bits.mono_l k
  unfold tamisref01_bits.f
  repeat' first
      | (with_reducible exact ih0 _ _ _)
      | (with_reducible exact LeO.refl _)
      | (with_reducible exact LeO.none _)
      | (with_reducible refine LeO.ite ?_ ?_)
      | (with_reducible refine LeO.bind ?_ (fun _ => ?_))
      | exact ih0 _ _ _
      | exact LeO.none _
      | refine LeO.ite ?_ ?_
      | refine LeO.bind ?_ (fun _ => ?_)
set_option maxHeartbeats 8000000 in
set_option maxRecDepth 100000 in
theorem tamisref01_bits.calls (k : Nat) (a0 : Int) (r : List Int) (w : World) (h : tamisref01_bits.f k a0 = some r) :
    Calls Try.prog 30 #[.int .u64 a0] w fun e w' => ∃ v0_ : Value, e = .returned (v0_) ∧ Kd.R (Kd.int .i64) 3 w' w.heap.size (fun _ => True) v0_ r ∧ Below w.heap.size w w' := by
  have HB := Aside0.mk (Below.refl w.heap.size w)
  have H : (tamisref01_bits.l0 k a0 ([] : List Int) 0) = some r := h
  clear h
  have H' := Aside0.mk H
  clear H
  go_enter Try.func30, Try.ntmps30
  go_wp2
  go_loopg [3, 4] k (fun kq v3 v4 w' => ∃ (x3_1 : List Int) (x4_1 : Int), v4 = .int .i64 x4_1 ∧ Aside0 (tamisref01_bits.l0 kq a0 x3_1 x4_1 = some r) ∧ Aside0 (kq ≤ k) ∧ Aside0 (Kd.R (Kd.int .i64) 3 w' w.heap.size (fun _ => True) v3 x3_1) ∧ Aside0 (Below w.heap.size w w'))
  case atStart => exact ⟨(([] : List Int)), (0), (by first | rfl | (simp; done) | (simp [*]; done)), H', ⟨Nat.le_refl _⟩, ⟨by first | exact Kd.R_nil _ _ _ _ _ | exact Kd.N_nil _ _ _ _ _ | exact Kd.V_nil _ _ _ _ _ | exact Kd.Q_nil _ _ _ _ _ | exact Kd.S_nil _ _ _ _ _⟩, ⟨by repeat (first | (with_reducible first | exact HB.out | apply below_alloc | apply pw_below_drewN | apply below_drew1) | exact HB.out)⟩⟩
  case round =>
    clear H'
    obtain ⟨x3_1, x4_1, rfl, HA, HK1, HO_3, HB⟩ := hrel
    cases gk with
    | zero => exact absurd HA.out (by simp [tamisref01_bits.l0])
    | succ k1 =>
      have H := HA.out
      clear HA
      simp only [tamisref01_bits.l0] at H
      by_cases c2 : x4_1 < 64
      · rw [if_pos c2] at H
        have c2b0 : decide (x4_1 < 64) = true := decide_eq_true c2
        clear c2
        by_cases c3 : 0 ≤ x4_1
        · rw [if_pos c3] at H
          have c3b0 := eq_true c3
          have c3b1 : decide (0 ≤ x4_1) = true := decide_eq_true c3
          clear c3
          obtain ⟨ji4, hji4⟩ : ∃ j_ : Int, (shr .u64 a0 x4_1) = j_ := ⟨_, rfl⟩
          replace H : (if x3_1.length < 17592186044416 then (tamisref01_bits.l0 k1 a0 (x3_1 ++ [wrap64 (Int.tmod (ji4) 2)]) (wrap64 (x4_1 + 1))) else (none)) = some r := by first | (rw [hji4] at H; exact H) | (simp only [hji4] at H ⊢; exact H)
          have hji4_ : (a0 / 2 ^ min x4_1.toNat 64) = ji4 := hji4
          have hji4z : x4_1 ≤ 64 → (a0 / 2 ^ x4_1.toNat) = ji4 := shr_small hji4
          by_cases c5 : x3_1.length < 17592186044416
          · rw [if_pos c5] at H
            have LMc5 := Aside0.mk c5
            clear c5
            obtain ⟨y101, hy101⟩ : ∃ y_ : List Int, y_ = (x3_1 ++ [wrap64 (Int.tmod (ji4) 2)]) := ⟨_, rfl⟩
            replace H : (tamisref01_bits.l0 k1 a0 y101 (wrap64 (x4_1 + 1))) = some r := by first | (rw [hy101]; with_reducible exact H) | (have H2_ := (Option.bind_some _ _).symm.trans H; rw [hy101]; with_reducible exact H2_) | (have H2_ := (Option.bind_some _ _).symm.trans H; with_reducible exact H2_) | with_reducible exact H | (rw [hy101]; exact H) | exact H
            have Ny101 := Aside0.mk hy101
            clear hy101
            have H' := Aside0.mk H
            clear H
            go_wp2_with (first | ((with_reducible refine gate_builtin (b := .append) (xs := #[.tmp 9, .tmp 15]) rfl ?_); at_builtin; refine Kd.R_append (Kd.int .i64) (w0 := w) w.heap.size rfl (.tmp 9) (.tmp 15) 41 3 (.int .i64 0) 8 rfl Try.underlying41 info3 rfl (by decide) (by omega) u3 x3_1 (wrap64 (Int.tmod (ji4) 2)) [.int .i64 (wrap64 (Int.tmod (ji4) 2))] (fun _ => True) (fun _ => False) rfl rfl ?aP (fun _ hk => hk.elim) ?aF ?aO ?aB ?aS ?aL ?_; (case aP => exact rfl); (case aB => exact (by repeat (first | (with_reducible first | exact HB.out | apply below_alloc | apply pw_below_drewN | apply below_drew1) | exact HB.out))); (case aF => exact (fun _ _ => trivial)); (case aO => exact (by (with_reducible repeat (first | apply Kd.R_alloc | apply Kd.R_drewN | apply Kd.R_drew)); exact HO_3.out)); (case aS => exact (below_size (by repeat (first | (with_reducible first | exact HB.out | apply below_alloc | apply pw_below_drewN | apply below_drew1) | exact HB.out)))); (case aL => have := LMc5.out; omega); intro v102 w6 ho hb hg hat; rw [← Ny101.out] at ho; have n0_ := Aside0.mk (hb); have n1_ := Aside0.mk (ho); clear HB; clear HO_3; have HB := n0_; have HO103 := n1_; clear n0_ n1_; clear ho hb hg hat))
            go_roundg k1
            case measure => have := HK1.out; omega
            case rel => exact ⟨(y101), (wrap64 (x4_1 + 1)), (by first | rfl | (simp; done) | (simp [*]; done)), H', ⟨by have := HK1.out; omega⟩, ⟨by (with_reducible repeat (first | apply Kd.R_alloc | apply Kd.R_drewN | apply Kd.R_drew)); exact HO103.out⟩, ⟨by repeat (first | (with_reducible first | exact HB.out | apply below_alloc | apply pw_below_drewN | apply below_drew1) | exact HB.out)⟩⟩
          · rw [if_neg c5] at H
            exact absurd H (by simp)
        · rw [if_neg c3] at H
          exact absurd H (by simp)
      · rw [if_neg c2] at H
        have c2b0 : decide (x4_1 < 64) = false := decide_eq_false c2
        clear c2
        obtain rfl := Option.some.inj H
        go_wp2
        go_ret
        exact ⟨_, by first | rfl | (simp [errW_none, errW_some] <;> rfl) | (simp [*, errW_none, errW_some] <;> rfl), by (with_reducible repeat (first | apply Kd.R_alloc | apply Kd.R_drewN | apply Kd.R_drew)); exact HO_3.out, by repeat (first | (with_reducible first | exact HB.out | apply below_alloc | apply pw_below_drewN | apply below_drew1) | exact HB.out)⟩

/-! ### tamisref01_value: function 31 -/
def tamisref01_value.l0 : Nat → List Int → Int → Int → Option (Int)
  | 0, _, _, _ => none
  | k + 1, x0, x3, x4 => if x4 ≥ 0 then (if 0 ≤ x4 then (if x4 < (x0.length : Int) then (tamisref01_value.l0 k x0 ((((2 * x3) % 4294967296) + ((rd x0 x4) % 4294967296)) % 4294967296) (wrap64 (x4 - 1))) else (none)) else (none)) else (some x3)
def tamisref01_value.f (k : Nat) (l0 : List Int) : Option (Int) := tamisref01_value.l0 k l0 0 31
theorem tamisref01_value.mono_l : ∀ k, (∀ y0 y1 y2, LeO (tamisref01_value.l0 k y0 y1 y2) (tamisref01_value.l0 (k + 1) y0 y1 y2))
  | 0 => fun _ _ _ r h => by simp [tamisref01_value.l0] at h
  | k + 1 => by
    have ih0 := tamisref01_value.mono_l k
    · intro y0 y1 y2
      unfold tamisref01_value.l0
      repeat' first
      | (with_reducible exact ih0 _ _ _)
      | (with_reducible exact LeO.refl _)
      | (with_reducible exact LeO.none _)
      | (with_reducible refine LeO.ite ?_ ?_)
      | (with_reducible refine LeO.bind ?_ (fun _ => ?_))
      | exact ih0 _ _ _
      | exact LeO.none _
      | refine LeO.ite ?_ ?_
      | refine LeO.bind ?_ (fun _ => ?_)
theorem tamisref01_value.mono : ∀ a0 k, LeO (tamisref01_value.f k a0) (tamisref01_value.f (k + 1) a0) := by
  intro a0 k
  have ih0 := tamisref01_value.mono_l k
  unfold tamisref01_value.f
  repeat' first
      | (with_reducible exact ih0 _ _ _)
      | (with_reducible exact LeO.refl _)
      | (with_reducible exact LeO.none _)
      | (with_reducible refine LeO.ite ?_ ?_)
      | (with_reducible refine LeO.bind ?_ (fun _ => ?_))
      | exact ih0 _ _ _
      | exact LeO.none _
      | refine LeO.ite ?_ ?_
      | refine LeO.bind ?_ (fun _ => ?_)
set_option maxHeartbeats 8000000 in
set_option maxRecDepth 100000 in
theorem tamisref01_value.calls (k : Nat) (A0 : Option Addr) (c0 : Nat) (l0 : List Int) (r : Int) (w : World) (hr0 : Kd.C (Kd.int .i64) w A0 l0.length l0) (hc0 : l0.length ≤ c0) (h : tamisref01_value.f k l0 = some r) :
    Calls Try.prog 31 #[.slice A0 l0.length c0] w fun e w' => e = .returned (.int .u32 r) ∧ Drawn0 w w' := by
  have HR0 := Aside0.mk hr0
  have HC0 := Aside0.mk hc0
  clear hr0 hc0
  have H : (tamisref01_value.l0 k l0 0 31) = some r := h
  clear h
  have H' := Aside0.mk H
  clear H
  go_enter Try.func31, Try.ntmps31
  go_wp2
  go_loopg [3, 4] k (fun kq v3 v4 w' => ∃ (x3_1 : Int) (x4_1 : Int), v3 = .int .u32 x3_1 ∧ v4 = .int .i64 x4_1 ∧ Aside0 (tamisref01_value.l0 kq l0 x3_1 x4_1 = some r) ∧ Aside0 (kq ≤ k) ∧ Drawn0 w w')
  case atStart => exact ⟨(0), (31), (by first | rfl | (simp; done) | (simp [*]; done)), (by first | rfl | (simp; done) | (simp [*]; done)), H', ⟨Nat.le_refl _⟩, by repeat (first | exact Drawn0.refl _ | apply Drawn0.step)⟩
  case round =>
    clear H'
    obtain ⟨x3_1, x4_1, rfl, rfl, HA, HK1, ⟨m1, rfl⟩⟩ := hrel
    cases gk with
    | zero => exact absurd HA.out (by simp [tamisref01_value.l0])
    | succ k1 =>
      have H := HA.out
      clear HA
      simp only [tamisref01_value.l0] at H
      by_cases c2 : x4_1 ≥ 0
      · rw [if_pos c2] at H
        have c2b0 : decide (0 ≤ x4_1) = true := decide_eq_true c2
        clear c2
        by_cases c3 : 0 ≤ x4_1
        · rw [if_pos c3] at H
          have c3b0 : decide (0 ≤ x4_1) = true := decide_eq_true c3
          clear c3
          by_cases c4 : x4_1 < (l0.length : Int)
          · rw [if_pos c4] at H
            have c4b0 : decide (x4_1 < (l0.length : Int)) = true := decide_eq_true c4
            clear c4
            have H' := Aside0.mk H
            clear H
            have p104 : 0 ≤ (x4_1 : Int) := of_decide_eq_true (by first | (with_reducible assumption) | assumption)
            have q104 : x4_1 < (l0.length : Int) := of_decide_eq_true (by first | (with_reducible assumption) | assumption)
            obtain ⟨ad104, e104, hx104_0⟩ := Kd.at_int HR0.out x4_1 p104 q104
            cases e104
            replace p104 := eq_true p104
            replace q104 := eq_true q104
            go_wp2
            go_roundg k1
            case measure => have := HK1.out; omega
            case rel => exact ⟨((((2 * x3_1) % 4294967296) + ((rd l0 x4_1) % 4294967296)) % 4294967296), (wrap64 (x4_1 - 1)), (by first | rfl | (simp; done) | (simp [*]; done)), (by first | rfl | (simp; done) | (simp [*]; done)), H', ⟨by have := HK1.out; omega⟩, by repeat (first | exact Drawn0.refl _ | apply Drawn0.step)⟩
          · rw [if_neg c4] at H
            exact absurd H (by simp)
        · rw [if_neg c3] at H
          exact absurd H (by simp)
      · rw [if_neg c2] at H
        have c2b0 : decide (0 ≤ x4_1) = false := decide_eq_false c2
        clear c2
        obtain rfl := Option.some.inj H
        go_wp2
        go_ret
        exact ⟨by first | rfl | (simp; done) | (simp [*]; done), by repeat (first | exact Drawn0.refl _ | apply Drawn0.step)⟩

/-! ### tamisref01_both: function 27 -/
def tamisref01_both.l0 : Nat → Int → Int → Int → List Int → List Int → List Int → Int → Option (Int)
  | 0, _, _, _, _, _, _, _ => none
  | k + 1, x2, x3, x4, x11, x12, x13, x14 => if x14 < 32 then (if 0 ≤ x14 then (if x14 < (x11.length : Int) then (if x14 < (x12.length : Int) then (if (wrap64 ((rd x11 x14) + (rd x12 x14))) = 0 then (if x14 < (x13.length : Int) then (tamisref01_both.l0 k x2 x3 x4 x11 x12 (x13.set (x14 : Int).toNat x2) (wrap64 (x14 + 1))) else (none)) else (if (wrap64 ((rd x11 x14) + (rd x12 x14))) = 1 then (if x14 < (x13.length : Int) then (tamisref01_both.l0 k x2 x3 x4 x11 x12 (x13.set (x14 : Int).toNat x3) (wrap64 (x14 + 1))) else (none)) else (if x14 < (x13.length : Int) then (tamisref01_both.l0 k x2 x3 x4 x11 x12 (x13.set (x14 : Int).toNat x4) (wrap64 (x14 + 1))) else (none)))) else (none)) else (none)) else (none)) else ((tamisref01_value.f k x13).bind fun t114 => (some t114))
def tamisref01_both.f (k : Nat) (a0 : Int) (a1 : Int) (a2 : Int) (a3 : Int) (a4 : Int) : Option (Int) := (tamisref01_bits.f k (IntKind.u64.wrap (a0))).bind fun t105 => ((tamisref01_bits.f k (IntKind.u64.wrap (a1))).bind fun t108 => (if 32 ≤ 35184372088832 then (tamisref01_both.l0 k a2 a3 a4 t105 t108 (List.replicate 32 0) 0) else (none)))
theorem tamisref01_both.mono_l : ∀ k, (∀ y0 y1 y2 y3 y4 y5 y6, LeO (tamisref01_both.l0 k y0 y1 y2 y3 y4 y5 y6) (tamisref01_both.l0 (k + 1) y0 y1 y2 y3 y4 y5 y6))
  | 0 => fun _ _ _ _ _ _ _ r h => by simp [tamisref01_both.l0] at h
  | k + 1 => by
    have ih0 := tamisref01_both.mono_l k
    · intro y0 y1 y2 y3 y4 y5 y6
      unfold tamisref01_both.l0
      repeat' first
      | (with_reducible exact ih0 _ _ _ _ _ _ _)
      | (with_reducible exact tamisref01_bits.mono _ _)
      | (with_reducible exact tamisref01_value.mono _ _)
      | (with_reducible exact LeO.refl _)
      | (with_reducible exact LeO.none _)
      | (with_reducible refine LeO.ite ?_ ?_)
      | (with_reducible refine LeO.bind ?_ (fun _ => ?_))
      | exact ih0 _ _ _ _ _ _ _
      | exact tamisref01_bits.mono _ _
      | exact tamisref01_value.mono _ _
      | exact LeO.none _
      | refine LeO.ite ?_ ?_
      | refine LeO.bind ?_ (fun _ => ?_)
theorem tamisref01_both.mono : ∀ a0 a1 a2 a3 a4 k, LeO (tamisref01_both.f k a0 a1 a2 a3 a4) (tamisref01_both.f (k + 1) a0 a1 a2 a3 a4) := by
  intro a0 a1 a2 a3 a4 k
  have ih0 := tamisref01_both.mono_l k
  unfold tamisref01_both.f
  repeat' first
      | (with_reducible exact ih0 _ _ _ _ _ _ _)
      | (with_reducible exact tamisref01_bits.mono _ _)
      | (with_reducible exact tamisref01_value.mono _ _)
      | (with_reducible exact LeO.refl _)
      | (with_reducible exact LeO.none _)
      | (with_reducible refine LeO.ite ?_ ?_)
      | (with_reducible refine LeO.bind ?_ (fun _ => ?_))
      | exact ih0 _ _ _ _ _ _ _
      | exact tamisref01_bits.mono _ _
      | exact tamisref01_value.mono _ _
      | exact LeO.none _
      | refine LeO.ite ?_ ?_
      | refine LeO.bind ?_ (fun _ => ?_)
set_option maxHeartbeats 8000000 in
set_option maxRecDepth 100000 in
theorem tamisref01_both.calls (k : Nat) (a0 : Int) (a1 : Int) (a2 : Int) (a3 : Int) (a4 : Int) (r : Int) (w : World) (h : tamisref01_both.f k a0 a1 a2 a3 a4 = some r) :
    Calls Try.prog 27 #[.int .u32 a0, .int .u32 a1, .int .i64 a2, .int .i64 a3, .int .i64 a4] w fun e w' => e = .returned (.int .u32 r) ∧ Below w.heap.size w w' := by
  have HB := Aside0.mk (Below.refl w.heap.size w)
  have H : ((tamisref01_bits.f k (IntKind.u64.wrap (a0))).bind fun t105 => ((tamisref01_bits.f k (IntKind.u64.wrap (a1))).bind fun t108 => (if 32 ≤ 35184372088832 then (tamisref01_both.l0 k a2 a3 a4 t105 t108 (List.replicate 32 0) 0) else (none)))) = some r := h
  clear h
  replace H := Option.bind_eq_some_iff.mp H
  obtain ⟨t105, A60, H⟩ := H
  replace H : ((tamisref01_bits.f k (IntKind.u64.wrap (a1))).bind fun t108 => (if 32 ≤ 35184372088832 then (tamisref01_both.l0 k a2 a3 a4 t105 t108 (List.replicate 32 0) 0) else (none))) = some r := H
  have A6 := Aside0.mk A60
  clear A60
  replace H := Option.bind_eq_some_iff.mp H
  obtain ⟨t108, A70, H⟩ := H
  replace H : (if 32 ≤ 35184372088832 then (tamisref01_both.l0 k a2 a3 a4 t105 t108 (List.replicate 32 0) 0) else (none)) = some r := H
  have A7 := Aside0.mk A70
  clear A70
  by_cases c8 : 32 ≤ 35184372088832
  · rw [if_pos c8] at H
    have c8b0 := eq_true c8
    have c8b1 : decide (32 ≤ 35184372088832) = true := decide_eq_true c8
    clear c8
    obtain ⟨y111, hy111⟩ : ∃ y_ : List Int, y_ = (List.replicate 32 0) := ⟨_, rfl⟩
    replace H : (tamisref01_both.l0 k a2 a3 a4 t105 t108 y111 0) = some r := by first | (rw [hy111]; with_reducible exact H) | (have H2_ := (Option.bind_some _ _).symm.trans H; rw [hy111]; with_reducible exact H2_) | (have H2_ := (Option.bind_some _ _).symm.trans H; with_reducible exact H2_) | with_reducible exact H | (rw [hy111]; exact H) | exact H
    have Ny111 := Aside0.mk hy111
    clear hy111
    have H' := Aside0.mk H
    clear H
    go_enter Try.func27, Try.ntmps27
    go_wp2_with (first | (go_at_call 30; (with_reducible refine (tamisref01_bits.calls k (IntKind.u64.wrap (a0)) t105 _ A6.out).mono ?_); rintro e w9 ⟨v106, rfl, ho0, hb⟩; have n0_ := Aside0.mk (Kd.R_lower ho0 (below_size (by repeat (first | (with_reducible first | exact HB.out | apply below_alloc | apply pw_below_drewN | apply below_drew1) | exact HB.out)))); have n1_ := Aside0.mk (below_step (by repeat (first | (with_reducible first | exact HB.out | apply below_alloc | apply pw_below_drewN | apply below_drew1) | exact HB.out)) hb); clear HB; have HO107 := n0_; have HB := n1_; clear n0_ n1_; (try clear hb); (try clear hb2); (try clear hk); (try clear hi); (try clear ho0)) | (go_at_call 30; (with_reducible refine (tamisref01_bits.calls k (IntKind.u64.wrap (a1)) t108 _ A7.out).mono ?_); rintro e w10 ⟨v109, rfl, ho0, hb⟩; have n0_ := Aside0.mk (Kd.R_elder' (by (with_reducible repeat (first | apply Kd.R_alloc | apply Kd.R_drewN | apply Kd.R_drew)); exact HO107.out) (Kd.R_base ho0) hb); have n1_ := Aside0.mk (Kd.R_lower (Kd.R_new' ho0 (Kd.R_lt (by (with_reducible repeat (first | apply Kd.R_alloc | apply Kd.R_drewN | apply Kd.R_drew)); exact HO107.out))) (below_size (by repeat (first | (with_reducible first | exact HB.out | apply below_alloc | apply pw_below_drewN | apply below_drew1) | exact HB.out)))); have n2_ := Aside0.mk (below_step (by repeat (first | (with_reducible first | exact HB.out | apply below_alloc | apply pw_below_drewN | apply below_drew1) | exact HB.out)) hb); clear HO107; clear HB; have HO107 := n0_; have HO110 := n1_; have HB := n2_; clear n0_ n1_ n2_; (try clear hb); (try clear hb2); (try clear hk); (try clear hi); (try clear ho0)) | ((with_reducible refine gate_dst (N := 21) rfl ?_); refine Kd.R_make (Kd.int .i64) _ 3 rfl (N := 21) rfl 41 _ _ rfl 32 rfl rfl Try.underlying41 (.int .i64 0) 8 info3 rfl (by decide) (by omega) 0 (ok := fun _ => True) (okp := fun _ => True) rfl (fun _ hk => hk) trivial (by omega) (by omega) (Below.refl _ _) (Nat.le_refl _) ?_; intro v112 w11 ho12 hb hg_ hnew_; clear hg_ hnew_; (first | rw [← Ny111.out] at ho12 | (simp only [Int.reduceToNat] at ho12; rw [← Ny111.out] at ho12)); have n0_ := Aside0.mk (Kd.R_elder' (by (with_reducible repeat (first | apply Kd.R_alloc | apply Kd.R_drewN | apply Kd.R_drew)); exact HO107.out) (Kd.R_base ho12) hb); have n1_ := Aside0.mk (Kd.R_elder' (by (with_reducible repeat (first | apply Kd.R_alloc | apply Kd.R_drewN | apply Kd.R_drew)); exact HO110.out) (Kd.R_base ho12) hb); have n2_ := Aside0.mk (Kd.R_lower (Kd.R_new' (Kd.R_new' ho12 (Kd.R_lt (by (with_reducible repeat (first | apply Kd.R_alloc | apply Kd.R_drewN | apply Kd.R_drew)); exact HO107.out))) (Kd.R_lt (by (with_reducible repeat (first | apply Kd.R_alloc | apply Kd.R_drewN | apply Kd.R_drew)); exact HO110.out))) (below_size (by repeat (first | (with_reducible first | exact HB.out | apply below_alloc | apply pw_below_drewN | apply below_drew1) | exact HB.out)))); have n3_ := Aside0.mk (below_step (by repeat (first | (with_reducible first | exact HB.out | apply below_alloc | apply pw_below_drewN | apply below_drew1) | exact HB.out)) hb); clear HO107; clear HO110; clear HB; have HO107 := n0_; have HO110 := n1_; have HO113 := n2_; have HB := n3_; clear n0_ n1_ n2_ n3_; clear hb ho12))
    repeat (go_quiet (first | (go_at_call 30; (with_reducible refine (tamisref01_bits.calls k (IntKind.u64.wrap (a0)) t105 _ A6.out).mono ?_); rintro e w9 ⟨v106, rfl, ho0, hb⟩; have n0_ := Aside0.mk (Kd.R_lower ho0 (below_size (by repeat (first | (with_reducible first | exact HB.out | apply below_alloc | apply pw_below_drewN | apply below_drew1) | exact HB.out)))); have n1_ := Aside0.mk (below_step (by repeat (first | (with_reducible first | exact HB.out | apply below_alloc | apply pw_below_drewN | apply below_drew1) | exact HB.out)) hb); clear HB; have HO107 := n0_; have HB := n1_; clear n0_ n1_; (try clear hb); (try clear hb2); (try clear hk); (try clear hi); (try clear ho0)) | (go_at_call 30; (with_reducible refine (tamisref01_bits.calls k (IntKind.u64.wrap (a1)) t108 _ A7.out).mono ?_); rintro e w10 ⟨v109, rfl, ho0, hb⟩; have n0_ := Aside0.mk (Kd.R_elder' (by (with_reducible repeat (first | apply Kd.R_alloc | apply Kd.R_drewN | apply Kd.R_drew)); exact HO107.out) (Kd.R_base ho0) hb); have n1_ := Aside0.mk (Kd.R_lower (Kd.R_new' ho0 (Kd.R_lt (by (with_reducible repeat (first | apply Kd.R_alloc | apply Kd.R_drewN | apply Kd.R_drew)); exact HO107.out))) (below_size (by repeat (first | (with_reducible first | exact HB.out | apply below_alloc | apply pw_below_drewN | apply below_drew1) | exact HB.out)))); have n2_ := Aside0.mk (below_step (by repeat (first | (with_reducible first | exact HB.out | apply below_alloc | apply pw_below_drewN | apply below_drew1) | exact HB.out)) hb); clear HO107; clear HB; have HO107 := n0_; have HO110 := n1_; have HB := n2_; clear n0_ n1_ n2_; (try clear hb); (try clear hb2); (try clear hk); (try clear hi); (try clear ho0)) | ((with_reducible refine gate_dst (N := 21) rfl ?_); refine Kd.R_make (Kd.int .i64) _ 3 rfl (N := 21) rfl 41 _ _ rfl 32 rfl rfl Try.underlying41 (.int .i64 0) 8 info3 rfl (by decide) (by omega) 0 (ok := fun _ => True) (okp := fun _ => True) rfl (fun _ hk => hk) trivial (by omega) (by omega) (Below.refl _ _) (Nat.le_refl _) ?_; intro v112 w11 ho12 hb hg_ hnew_; clear hg_ hnew_; (first | rw [← Ny111.out] at ho12 | (simp only [Int.reduceToNat] at ho12; rw [← Ny111.out] at ho12)); have n0_ := Aside0.mk (Kd.R_elder' (by (with_reducible repeat (first | apply Kd.R_alloc | apply Kd.R_drewN | apply Kd.R_drew)); exact HO107.out) (Kd.R_base ho12) hb); have n1_ := Aside0.mk (Kd.R_elder' (by (with_reducible repeat (first | apply Kd.R_alloc | apply Kd.R_drewN | apply Kd.R_drew)); exact HO110.out) (Kd.R_base ho12) hb); have n2_ := Aside0.mk (Kd.R_lower (Kd.R_new' (Kd.R_new' ho12 (Kd.R_lt (by (with_reducible repeat (first | apply Kd.R_alloc | apply Kd.R_drewN | apply Kd.R_drew)); exact HO107.out))) (Kd.R_lt (by (with_reducible repeat (first | apply Kd.R_alloc | apply Kd.R_drewN | apply Kd.R_drew)); exact HO110.out))) (below_size (by repeat (first | (with_reducible first | exact HB.out | apply below_alloc | apply pw_below_drewN | apply below_drew1) | exact HB.out)))); have n3_ := Aside0.mk (below_step (by repeat (first | (with_reducible first | exact HB.out | apply below_alloc | apply pw_below_drewN | apply below_drew1) | exact HB.out)) hb); clear HO107; clear HO110; clear HB; have HO107 := n0_; have HO110 := n1_; have HO113 := n2_; have HB := n3_; clear n0_ n1_ n2_ n3_; clear hb ho12)); try go_wp2_with (first | (go_at_call 30; (with_reducible refine (tamisref01_bits.calls k (IntKind.u64.wrap (a0)) t105 _ A6.out).mono ?_); rintro e w9 ⟨v106, rfl, ho0, hb⟩; have n0_ := Aside0.mk (Kd.R_lower ho0 (below_size (by repeat (first | (with_reducible first | exact HB.out | apply below_alloc | apply pw_below_drewN | apply below_drew1) | exact HB.out)))); have n1_ := Aside0.mk (below_step (by repeat (first | (with_reducible first | exact HB.out | apply below_alloc | apply pw_below_drewN | apply below_drew1) | exact HB.out)) hb); clear HB; have HO107 := n0_; have HB := n1_; clear n0_ n1_; (try clear hb); (try clear hb2); (try clear hk); (try clear hi); (try clear ho0)) | (go_at_call 30; (with_reducible refine (tamisref01_bits.calls k (IntKind.u64.wrap (a1)) t108 _ A7.out).mono ?_); rintro e w10 ⟨v109, rfl, ho0, hb⟩; have n0_ := Aside0.mk (Kd.R_elder' (by (with_reducible repeat (first | apply Kd.R_alloc | apply Kd.R_drewN | apply Kd.R_drew)); exact HO107.out) (Kd.R_base ho0) hb); have n1_ := Aside0.mk (Kd.R_lower (Kd.R_new' ho0 (Kd.R_lt (by (with_reducible repeat (first | apply Kd.R_alloc | apply Kd.R_drewN | apply Kd.R_drew)); exact HO107.out))) (below_size (by repeat (first | (with_reducible first | exact HB.out | apply below_alloc | apply pw_below_drewN | apply below_drew1) | exact HB.out)))); have n2_ := Aside0.mk (below_step (by repeat (first | (with_reducible first | exact HB.out | apply below_alloc | apply pw_below_drewN | apply below_drew1) | exact HB.out)) hb); clear HO107; clear HB; have HO107 := n0_; have HO110 := n1_; have HB := n2_; clear n0_ n1_ n2_; (try clear hb); (try clear hb2); (try clear hk); (try clear hi); (try clear ho0)) | ((with_reducible refine gate_dst (N := 21) rfl ?_); refine Kd.R_make (Kd.int .i64) _ 3 rfl (N := 21) rfl 41 _ _ rfl 32 rfl rfl Try.underlying41 (.int .i64 0) 8 info3 rfl (by decide) (by omega) 0 (ok := fun _ => True) (okp := fun _ => True) rfl (fun _ hk => hk) trivial (by omega) (by omega) (Below.refl _ _) (Nat.le_refl _) ?_; intro v112 w11 ho12 hb hg_ hnew_; clear hg_ hnew_; (first | rw [← Ny111.out] at ho12 | (simp only [Int.reduceToNat] at ho12; rw [← Ny111.out] at ho12)); have n0_ := Aside0.mk (Kd.R_elder' (by (with_reducible repeat (first | apply Kd.R_alloc | apply Kd.R_drewN | apply Kd.R_drew)); exact HO107.out) (Kd.R_base ho12) hb); have n1_ := Aside0.mk (Kd.R_elder' (by (with_reducible repeat (first | apply Kd.R_alloc | apply Kd.R_drewN | apply Kd.R_drew)); exact HO110.out) (Kd.R_base ho12) hb); have n2_ := Aside0.mk (Kd.R_lower (Kd.R_new' (Kd.R_new' ho12 (Kd.R_lt (by (with_reducible repeat (first | apply Kd.R_alloc | apply Kd.R_drewN | apply Kd.R_drew)); exact HO107.out))) (Kd.R_lt (by (with_reducible repeat (first | apply Kd.R_alloc | apply Kd.R_drewN | apply Kd.R_drew)); exact HO110.out))) (below_size (by repeat (first | (with_reducible first | exact HB.out | apply below_alloc | apply pw_below_drewN | apply below_drew1) | exact HB.out)))); have n3_ := Aside0.mk (below_step (by repeat (first | (with_reducible first | exact HB.out | apply below_alloc | apply pw_below_drewN | apply below_drew1) | exact HB.out)) hb); clear HO107; clear HO110; clear HB; have HO107 := n0_; have HO110 := n1_; have HO113 := n2_; have HB := n3_; clear n0_ n1_ n2_ n3_; clear hb ho12)))
    go_loopg [14] k (fun kq v14 w' => ∃ (x13_1 : List Int) (x14_1 : Int), v14 = .int .i64 x14_1 ∧ Aside0 (tamisref01_both.l0 kq a2 a3 a4 t105 t108 x13_1 x14_1 = some r) ∧ Aside0 (kq ≤ k) ∧ Aside0 (Kd.R (Kd.int .i64) 3 w' w.heap.size (fun k_ => some k_ ≠ (v109 : Value).ownBlock ∧ some k_ ≠ (v112 : Value).ownBlock) v106 t105) ∧ Aside0 (Kd.R (Kd.int .i64) 3 w' w.heap.size (fun k_ => some k_ ≠ (v106 : Value).ownBlock ∧ some k_ ≠ (v112 : Value).ownBlock) v109 t108) ∧ Aside0 (Kd.R (Kd.int .i64) 3 w' w.heap.size (fun k_ => some k_ ≠ (v106 : Value).ownBlock ∧ some k_ ≠ (v109 : Value).ownBlock) v112 x13_1) ∧ Aside0 (Below w.heap.size w w'))
    case atStart => exact ⟨(y111), (0), (by first | rfl | (simp; done) | (simp [*]; done)), H', ⟨Nat.le_refl _⟩, ⟨by (with_reducible repeat (first | apply Kd.R_alloc | apply Kd.R_drewN | apply Kd.R_drew)); exact Kd.R_mono HO107.out (fun _ hk => ⟨hk.1.2, hk.2⟩)⟩, ⟨by (with_reducible repeat (first | apply Kd.R_alloc | apply Kd.R_drewN | apply Kd.R_drew)); exact Kd.R_mono HO110.out (fun _ hk => ⟨hk.1.2, hk.2⟩)⟩, ⟨by (with_reducible repeat (first | apply Kd.R_alloc | apply Kd.R_drewN | apply Kd.R_drew)); exact Kd.R_mono HO113.out (fun _ hk => ⟨hk.1.2, hk.2⟩)⟩, ⟨by repeat (first | (with_reducible first | exact HB.out | apply below_alloc | apply pw_below_drewN | apply below_drew1) | exact HB.out)⟩⟩
    case round =>
      clear H'
      try clear c2
      try clear p2
      try clear c8
      try clear c8b0
      try clear c8b1
      obtain ⟨x13_1, x14_1, rfl, HA, HK1, HO_11, HO_12, HO_13, HB⟩ := hrel
      cases gk with
      | zero => exact absurd HA.out (by simp [tamisref01_both.l0])
      | succ k1 =>
        have H := HA.out
        clear HA
        simp only [tamisref01_both.l0] at H
        by_cases c13 : x14_1 < 32
        · rw [if_pos c13] at H
          have c13b0 : decide (x14_1 < 32) = true := decide_eq_true c13
          clear c13
          by_cases c14 : 0 ≤ x14_1
          · rw [if_pos c14] at H
            have c14b0 : decide (0 ≤ x14_1) = true := decide_eq_true c14
            clear c14
            by_cases c15 : x14_1 < (t105.length : Int)
            · rw [if_pos c15] at H
              have c15b0 : decide (x14_1 < (t105.length : Int)) = true := decide_eq_true c15
              clear c15
              by_cases c16 : x14_1 < (t108.length : Int)
              · rw [if_pos c16] at H
                have c16b0 : decide (x14_1 < (t108.length : Int)) = true := decide_eq_true c16
                clear c16
                by_cases c17 : (wrap64 ((rd t105 x14_1) + (rd t108 x14_1))) = 0
                · rw [if_pos c17] at H
                  have c17b0 : ((wrap64 ((rd t105 x14_1) + (rd t108 x14_1))) == 0) = true := beq_iff_eq.mpr c17
                  have c17b1 : ((wrap64 ((rd t105 x14_1) + (rd t108 x14_1))) != 0) = false := bne_eq_false_iff_eq.mpr c17
                  clear c17
                  by_cases c18 : x14_1 < (x13_1.length : Int)
                  · rw [if_pos c18] at H
                    have c18b0 : decide (x14_1 < (x13_1.length : Int)) = true := decide_eq_true c18
                    clear c18
                    obtain ⟨y117, hy117⟩ : ∃ y_ : List Int, y_ = (x13_1.set (x14_1 : Int).toNat a2) := ⟨_, rfl⟩
                    replace H : (tamisref01_both.l0 k1 a2 a3 a4 t105 t108 y117 (wrap64 (x14_1 + 1))) = some r := by first | (rw [hy117]; with_reducible exact H) | (have H2_ := (Option.bind_some _ _).symm.trans H; rw [hy117]; with_reducible exact H2_) | (have H2_ := (Option.bind_some _ _).symm.trans H; with_reducible exact H2_) | with_reducible exact H | (rw [hy117]; exact H) | exact H
                    have Ny117 := Aside0.mk hy117
                    clear hy117
                    have H' := Aside0.mk H
                    clear H
                    obtain ⟨Ao20, co20, eo20⟩ := Kd.R_slice HO_11.out
                    subst eo20
                    have p115 : 0 ≤ (x14_1 : Int) := of_decide_eq_true (by first | (with_reducible assumption) | assumption)
                    have q115 : x14_1 < (t105.length : Int) := of_decide_eq_true (by first | (with_reducible assumption) | assumption)
                    obtain ⟨ad115, e115, hx115_0⟩ := Kd.at_int (Kd.R_reads' HO_11.out).2.2 x14_1 p115 q115
                    cases e115
                    replace p115 := eq_true p115
                    replace q115 := eq_true q115
                    obtain ⟨Ao21, co21, eo21⟩ := Kd.R_slice HO_12.out
                    subst eo21
                    have p116 : 0 ≤ (x14_1 : Int) := of_decide_eq_true (by first | (with_reducible assumption) | assumption)
                    have q116 : x14_1 < (t108.length : Int) := of_decide_eq_true (by first | (with_reducible assumption) | assumption)
                    obtain ⟨ad116, e116, hx116_0⟩ := Kd.at_int (Kd.R_reads' HO_12.out).2.2 x14_1 p116 q116
                    cases e116
                    replace p116 := eq_true p116
                    replace q116 := eq_true q116
                    have p19 : 0 ≤ (x14_1 : Int) := of_decide_eq_true (by first | (with_reducible assumption) | assumption)
                    have q19 : (x14_1 : Int) < ((x13_1.length : Int) : Int) := of_decide_eq_true (by first | (with_reducible assumption) | assumption)
                    obtain ⟨go19, co19, eo19, gb19, gl19, cl19, HG19⟩ := Kd.R_form HO_13.out (by omega)
                    (first | cases eo19 | (injection eo19 with ea_ en_ ec_; (first | subst ea_ | (injection ea_ with ea_; subst ea_)); subst ec_; clear en_))
                    have GB19 := Aside0.mk gb19
                    have GG19 := Aside0.mk HG19
                    clear gb19 gl19 HG19
                    obtain ⟨hx19_0, hf19_0⟩ := Kd.R_celln 0 HO_13.out (x14_1 : Int) p19 q19
                    replace p19 := eq_true p19
                    replace q19 := eq_true q19
                    have HP22 := Kd.R_putg HO_13.out (x14_1 : Int) a2
                    go_wp2_with (first | ((with_reducible refine gate_store (t := 3) (p := 44) rfl ?_); (try (rw [drewN_self wr]; generalize hq_ : World.drewN wr _ = wr; have n0_ := Aside0.mk (Kd.R_at hq_ HO_11.out); have n1_ := Aside0.mk (Kd.R_at hq_ HO_12.out); have n2_ := Aside0.mk (Kd.R_at hq_ HO_13.out); have n3_ := Aside0.mk (below_at hq_ HB.out); clear hq_ HO_11 HO_12 HO_13 HB; have HO_11 := n0_; have HO_12 := n1_; have HO_13 := n2_; have HB := n3_; clear n0_ n1_ n2_ n3_; (try (have HP22 := Kd.R_putg HO_13.out (x14_1 : Int) a2)))); refine store_event (t := 3) (p := 44) (v := ?vo_w23) (w1 := (wr.setCell ⟨go19, (x14_1 : Int).toNat, none⟩ (.int .i64 a2))) ?hg ?ho ?hn ?hr ?_; (case ho => rfl); (case hg => rfl); (case hn => rfl); (case hr => first | (go_simp; done) | (go_simp; rfl)); intro w23 hw; have hg : wr.grownBy w23 (some go19) := (by rw [hw]; exact HP22.2); have hp_ : Kd.R (Kd.int .i64) 3 w23 w.heap.size (fun k_ => some k_ ≠ (.slice (some ad115) t105.length co20 : Value).ownBlock ∧ some k_ ≠ (.slice (some ad116) t108.length co21 : Value).ownBlock) (.slice (some ⟨go19, 0, none⟩) x13_1.length co19) y117 := (by rw [hw, Ny117.out]; exact HP22.1); clear HP22; have n0_ := Aside0.mk (Kd.R_after (v := (.slice (some ⟨go19, 0, none⟩) x13_1.length co19)) (v1 := (.slice (some ⟨go19, 0, none⟩) x13_1.length co19)) (ok := (fun k_ => some k_ ≠ (.slice (some ad116) t108.length co21 : Value).ownBlock)) (by (with_reducible repeat (first | apply Kd.R_alloc | apply Kd.R_drewN | apply Kd.R_drew)); exact HO_11.out) hg (.inl rfl)); have n1_ := Aside0.mk (Kd.R_after (v := (.slice (some ⟨go19, 0, none⟩) x13_1.length co19)) (v1 := (.slice (some ⟨go19, 0, none⟩) x13_1.length co19)) (ok := (fun k_ => some k_ ≠ (.slice (some ad115) t105.length co20 : Value).ownBlock)) (by (with_reducible repeat (first | apply Kd.R_alloc | apply Kd.R_drewN | apply Kd.R_drew)); exact HO_12.out) hg (.inl rfl)); have n2_ := Aside0.mk (hp_); have n3_ := Aside0.mk ((by rw [hw]; exact below_set (HB.out) GB19.out : Below w.heap.size w w23)); clear HO_11; clear HO_12; clear HO_13; clear HB; have HO_11 := n0_; have HO_12 := n1_; have HO_13 := n2_; have HB := n3_; clear n0_ n1_ n2_ n3_; clear hg hw hp_))
                    repeat (go_quiet (first | ((with_reducible refine gate_store (t := 3) (p := 44) rfl ?_); (try (rw [drewN_self wr]; generalize hq_ : World.drewN wr _ = wr; have n0_ := Aside0.mk (Kd.R_at hq_ HO_11.out); have n1_ := Aside0.mk (Kd.R_at hq_ HO_12.out); have n2_ := Aside0.mk (Kd.R_at hq_ HO_13.out); have n3_ := Aside0.mk (below_at hq_ HB.out); clear hq_ HO_11 HO_12 HO_13 HB; have HO_11 := n0_; have HO_12 := n1_; have HO_13 := n2_; have HB := n3_; clear n0_ n1_ n2_ n3_; (try (have HP22 := Kd.R_putg HO_13.out (x14_1 : Int) a2)))); refine store_event (t := 3) (p := 44) (v := ?vo_w23) (w1 := (wr.setCell ⟨go19, (x14_1 : Int).toNat, none⟩ (.int .i64 a2))) ?hg ?ho ?hn ?hr ?_; (case ho => rfl); (case hg => rfl); (case hn => rfl); (case hr => first | (go_simp; done) | (go_simp; rfl)); intro w23 hw; have hg : wr.grownBy w23 (some go19) := (by rw [hw]; exact HP22.2); have hp_ : Kd.R (Kd.int .i64) 3 w23 w.heap.size (fun k_ => some k_ ≠ (.slice (some ad115) t105.length co20 : Value).ownBlock ∧ some k_ ≠ (.slice (some ad116) t108.length co21 : Value).ownBlock) (.slice (some ⟨go19, 0, none⟩) x13_1.length co19) y117 := (by rw [hw, Ny117.out]; exact HP22.1); clear HP22; have n0_ := Aside0.mk (Kd.R_after (v := (.slice (some ⟨go19, 0, none⟩) x13_1.length co19)) (v1 := (.slice (some ⟨go19, 0, none⟩) x13_1.length co19)) (ok := (fun k_ => some k_ ≠ (.slice (some ad116) t108.length co21 : Value).ownBlock)) (by (with_reducible repeat (first | apply Kd.R_alloc | apply Kd.R_drewN | apply Kd.R_drew)); exact HO_11.out) hg (.inl rfl)); have n1_ := Aside0.mk (Kd.R_after (v := (.slice (some ⟨go19, 0, none⟩) x13_1.length co19)) (v1 := (.slice (some ⟨go19, 0, none⟩) x13_1.length co19)) (ok := (fun k_ => some k_ ≠ (.slice (some ad115) t105.length co20 : Value).ownBlock)) (by (with_reducible repeat (first | apply Kd.R_alloc | apply Kd.R_drewN | apply Kd.R_drew)); exact HO_12.out) hg (.inl rfl)); have n2_ := Aside0.mk (hp_); have n3_ := Aside0.mk ((by rw [hw]; exact below_set (HB.out) GB19.out : Below w.heap.size w w23)); clear HO_11; clear HO_12; clear HO_13; clear HB; have HO_11 := n0_; have HO_12 := n1_; have HO_13 := n2_; have HB := n3_; clear n0_ n1_ n2_ n3_; clear hg hw hp_)); try go_wp2_with (first | ((with_reducible refine gate_store (t := 3) (p := 44) rfl ?_); (try (rw [drewN_self wr]; generalize hq_ : World.drewN wr _ = wr; have n0_ := Aside0.mk (Kd.R_at hq_ HO_11.out); have n1_ := Aside0.mk (Kd.R_at hq_ HO_12.out); have n2_ := Aside0.mk (Kd.R_at hq_ HO_13.out); have n3_ := Aside0.mk (below_at hq_ HB.out); clear hq_ HO_11 HO_12 HO_13 HB; have HO_11 := n0_; have HO_12 := n1_; have HO_13 := n2_; have HB := n3_; clear n0_ n1_ n2_ n3_; (try (have HP22 := Kd.R_putg HO_13.out (x14_1 : Int) a2)))); refine store_event (t := 3) (p := 44) (v := ?vo_w23) (w1 := (wr.setCell ⟨go19, (x14_1 : Int).toNat, none⟩ (.int .i64 a2))) ?hg ?ho ?hn ?hr ?_; (case ho => rfl); (case hg => rfl); (case hn => rfl); (case hr => first | (go_simp; done) | (go_simp; rfl)); intro w23 hw; have hg : wr.grownBy w23 (some go19) := (by rw [hw]; exact HP22.2); have hp_ : Kd.R (Kd.int .i64) 3 w23 w.heap.size (fun k_ => some k_ ≠ (.slice (some ad115) t105.length co20 : Value).ownBlock ∧ some k_ ≠ (.slice (some ad116) t108.length co21 : Value).ownBlock) (.slice (some ⟨go19, 0, none⟩) x13_1.length co19) y117 := (by rw [hw, Ny117.out]; exact HP22.1); clear HP22; have n0_ := Aside0.mk (Kd.R_after (v := (.slice (some ⟨go19, 0, none⟩) x13_1.length co19)) (v1 := (.slice (some ⟨go19, 0, none⟩) x13_1.length co19)) (ok := (fun k_ => some k_ ≠ (.slice (some ad116) t108.length co21 : Value).ownBlock)) (by (with_reducible repeat (first | apply Kd.R_alloc | apply Kd.R_drewN | apply Kd.R_drew)); exact HO_11.out) hg (.inl rfl)); have n1_ := Aside0.mk (Kd.R_after (v := (.slice (some ⟨go19, 0, none⟩) x13_1.length co19)) (v1 := (.slice (some ⟨go19, 0, none⟩) x13_1.length co19)) (ok := (fun k_ => some k_ ≠ (.slice (some ad115) t105.length co20 : Value).ownBlock)) (by (with_reducible repeat (first | apply Kd.R_alloc | apply Kd.R_drewN | apply Kd.R_drew)); exact HO_12.out) hg (.inl rfl)); have n2_ := Aside0.mk (hp_); have n3_ := Aside0.mk ((by rw [hw]; exact below_set (HB.out) GB19.out : Below w.heap.size w w23)); clear HO_11; clear HO_12; clear HO_13; clear HB; have HO_11 := n0_; have HO_12 := n1_; have HO_13 := n2_; have HB := n3_; clear n0_ n1_ n2_ n3_; clear hg hw hp_)))
                    go_roundg k1
                    case measure => have := HK1.out; omega
                    case rel => exact ⟨(y117), (wrap64 (x14_1 + 1)), (by first | rfl | (simp; done) | (simp [*]; done)), H', ⟨by have := HK1.out; omega⟩, ⟨Kd.R_far (Kd.R_drewN HO_11.out _) (fun k_ hk_ e_ => hk_.2 (by rw [e_]; rfl)) _⟩, ⟨Kd.R_far (Kd.R_drewN HO_12.out _) (fun k_ hk_ e_ => hk_.2 (by rw [e_]; rfl)) _⟩, ⟨by rw [Ny117.out]; exact (Kd.R_putg (Kd.R_drewN HO_13.out _) (x14_1 : Int) a2).1⟩, ⟨below_set (pw_below_drewN HB.out _) GB19.out⟩⟩
                  · rw [if_neg c18] at H
                    exact absurd H (by simp)
                · rw [if_neg c17] at H
                  have c17b0 : ((wrap64 ((rd t105 x14_1) + (rd t108 x14_1))) == 0) = false := beq_eq_false_iff_ne.mpr c17
                  have c17b1 : ((wrap64 ((rd t105 x14_1) + (rd t108 x14_1))) != 0) = true := bne_iff_ne.mpr c17
                  by_cases c24 : (wrap64 ((rd t105 x14_1) + (rd t108 x14_1))) = 1
                  · rw [if_pos c24] at H
                    have c24b0 : ((wrap64 ((rd t105 x14_1) + (rd t108 x14_1))) == 1) = true := beq_iff_eq.mpr c24
                    have c24b1 : ((wrap64 ((rd t105 x14_1) + (rd t108 x14_1))) != 1) = false := bne_eq_false_iff_eq.mpr c24
                    clear c24
                    by_cases c25 : x14_1 < (x13_1.length : Int)
                    · rw [if_pos c25] at H
                      have c25b0 : decide (x14_1 < (x13_1.length : Int)) = true := decide_eq_true c25
                      clear c25
                      obtain ⟨y118, hy118⟩ : ∃ y_ : List Int, y_ = (x13_1.set (x14_1 : Int).toNat a3) := ⟨_, rfl⟩
                      replace H : (tamisref01_both.l0 k1 a2 a3 a4 t105 t108 y118 (wrap64 (x14_1 + 1))) = some r := by first | (rw [hy118]; with_reducible exact H) | (have H2_ := (Option.bind_some _ _).symm.trans H; rw [hy118]; with_reducible exact H2_) | (have H2_ := (Option.bind_some _ _).symm.trans H; with_reducible exact H2_) | with_reducible exact H | (rw [hy118]; exact H) | exact H
                      have Ny118 := Aside0.mk hy118
                      clear hy118
                      have H' := Aside0.mk H
                      clear H
                      obtain ⟨Ao27, co27, eo27⟩ := Kd.R_slice HO_11.out
                      subst eo27
                      have p115 : 0 ≤ (x14_1 : Int) := of_decide_eq_true (by first | (with_reducible assumption) | assumption)
                      have q115 : x14_1 < (t105.length : Int) := of_decide_eq_true (by first | (with_reducible assumption) | assumption)
                      obtain ⟨ad115, e115, hx115_0⟩ := Kd.at_int (Kd.R_reads' HO_11.out).2.2 x14_1 p115 q115
                      cases e115
                      replace p115 := eq_true p115
                      replace q115 := eq_true q115
                      obtain ⟨Ao28, co28, eo28⟩ := Kd.R_slice HO_12.out
                      subst eo28
                      have p116 : 0 ≤ (x14_1 : Int) := of_decide_eq_true (by first | (with_reducible assumption) | assumption)
                      have q116 : x14_1 < (t108.length : Int) := of_decide_eq_true (by first | (with_reducible assumption) | assumption)
                      obtain ⟨ad116, e116, hx116_0⟩ := Kd.at_int (Kd.R_reads' HO_12.out).2.2 x14_1 p116 q116
                      cases e116
                      replace p116 := eq_true p116
                      replace q116 := eq_true q116
                      have p26 : 0 ≤ (x14_1 : Int) := of_decide_eq_true (by first | (with_reducible assumption) | assumption)
                      have q26 : (x14_1 : Int) < ((x13_1.length : Int) : Int) := of_decide_eq_true (by first | (with_reducible assumption) | assumption)
                      obtain ⟨go26, co26, eo26, gb26, gl26, cl26, HG26⟩ := Kd.R_form HO_13.out (by omega)
                      (first | cases eo26 | (injection eo26 with ea_ en_ ec_; (first | subst ea_ | (injection ea_ with ea_; subst ea_)); subst ec_; clear en_))
                      have GB26 := Aside0.mk gb26
                      have GG26 := Aside0.mk HG26
                      clear gb26 gl26 HG26
                      obtain ⟨hx26_0, hf26_0⟩ := Kd.R_celln 0 HO_13.out (x14_1 : Int) p26 q26
                      replace p26 := eq_true p26
                      replace q26 := eq_true q26
                      have HP29 := Kd.R_putg HO_13.out (x14_1 : Int) a3
                      go_wp2_with (first | ((with_reducible refine gate_store (t := 3) (p := 50) rfl ?_); (try (rw [drewN_self wr]; generalize hq_ : World.drewN wr _ = wr; have n0_ := Aside0.mk (Kd.R_at hq_ HO_11.out); have n1_ := Aside0.mk (Kd.R_at hq_ HO_12.out); have n2_ := Aside0.mk (Kd.R_at hq_ HO_13.out); have n3_ := Aside0.mk (below_at hq_ HB.out); clear hq_ HO_11 HO_12 HO_13 HB; have HO_11 := n0_; have HO_12 := n1_; have HO_13 := n2_; have HB := n3_; clear n0_ n1_ n2_ n3_; (try (have HP29 := Kd.R_putg HO_13.out (x14_1 : Int) a3)))); refine store_event (t := 3) (p := 50) (v := ?vo_w30) (w1 := (wr.setCell ⟨go26, (x14_1 : Int).toNat, none⟩ (.int .i64 a3))) ?hg ?ho ?hn ?hr ?_; (case ho => rfl); (case hg => rfl); (case hn => rfl); (case hr => first | (go_simp; done) | (go_simp; rfl)); intro w30 hw; have hg : wr.grownBy w30 (some go26) := (by rw [hw]; exact HP29.2); have hp_ : Kd.R (Kd.int .i64) 3 w30 w.heap.size (fun k_ => some k_ ≠ (.slice (some ad115) t105.length co27 : Value).ownBlock ∧ some k_ ≠ (.slice (some ad116) t108.length co28 : Value).ownBlock) (.slice (some ⟨go26, 0, none⟩) x13_1.length co26) y118 := (by rw [hw, Ny118.out]; exact HP29.1); clear HP29; have n0_ := Aside0.mk (Kd.R_after (v := (.slice (some ⟨go26, 0, none⟩) x13_1.length co26)) (v1 := (.slice (some ⟨go26, 0, none⟩) x13_1.length co26)) (ok := (fun k_ => some k_ ≠ (.slice (some ad116) t108.length co28 : Value).ownBlock)) (by (with_reducible repeat (first | apply Kd.R_alloc | apply Kd.R_drewN | apply Kd.R_drew)); exact HO_11.out) hg (.inl rfl)); have n1_ := Aside0.mk (Kd.R_after (v := (.slice (some ⟨go26, 0, none⟩) x13_1.length co26)) (v1 := (.slice (some ⟨go26, 0, none⟩) x13_1.length co26)) (ok := (fun k_ => some k_ ≠ (.slice (some ad115) t105.length co27 : Value).ownBlock)) (by (with_reducible repeat (first | apply Kd.R_alloc | apply Kd.R_drewN | apply Kd.R_drew)); exact HO_12.out) hg (.inl rfl)); have n2_ := Aside0.mk (hp_); have n3_ := Aside0.mk ((by rw [hw]; exact below_set (HB.out) GB26.out : Below w.heap.size w w30)); clear HO_11; clear HO_12; clear HO_13; clear HB; have HO_11 := n0_; have HO_12 := n1_; have HO_13 := n2_; have HB := n3_; clear n0_ n1_ n2_ n3_; clear hg hw hp_))
                      repeat (go_quiet (first | ((with_reducible refine gate_store (t := 3) (p := 50) rfl ?_); (try (rw [drewN_self wr]; generalize hq_ : World.drewN wr _ = wr; have n0_ := Aside0.mk (Kd.R_at hq_ HO_11.out); have n1_ := Aside0.mk (Kd.R_at hq_ HO_12.out); have n2_ := Aside0.mk (Kd.R_at hq_ HO_13.out); have n3_ := Aside0.mk (below_at hq_ HB.out); clear hq_ HO_11 HO_12 HO_13 HB; have HO_11 := n0_; have HO_12 := n1_; have HO_13 := n2_; have HB := n3_; clear n0_ n1_ n2_ n3_; (try (have HP29 := Kd.R_putg HO_13.out (x14_1 : Int) a3)))); refine store_event (t := 3) (p := 50) (v := ?vo_w30) (w1 := (wr.setCell ⟨go26, (x14_1 : Int).toNat, none⟩ (.int .i64 a3))) ?hg ?ho ?hn ?hr ?_; (case ho => rfl); (case hg => rfl); (case hn => rfl); (case hr => first | (go_simp; done) | (go_simp; rfl)); intro w30 hw; have hg : wr.grownBy w30 (some go26) := (by rw [hw]; exact HP29.2); have hp_ : Kd.R (Kd.int .i64) 3 w30 w.heap.size (fun k_ => some k_ ≠ (.slice (some ad115) t105.length co27 : Value).ownBlock ∧ some k_ ≠ (.slice (some ad116) t108.length co28 : Value).ownBlock) (.slice (some ⟨go26, 0, none⟩) x13_1.length co26) y118 := (by rw [hw, Ny118.out]; exact HP29.1); clear HP29; have n0_ := Aside0.mk (Kd.R_after (v := (.slice (some ⟨go26, 0, none⟩) x13_1.length co26)) (v1 := (.slice (some ⟨go26, 0, none⟩) x13_1.length co26)) (ok := (fun k_ => some k_ ≠ (.slice (some ad116) t108.length co28 : Value).ownBlock)) (by (with_reducible repeat (first | apply Kd.R_alloc | apply Kd.R_drewN | apply Kd.R_drew)); exact HO_11.out) hg (.inl rfl)); have n1_ := Aside0.mk (Kd.R_after (v := (.slice (some ⟨go26, 0, none⟩) x13_1.length co26)) (v1 := (.slice (some ⟨go26, 0, none⟩) x13_1.length co26)) (ok := (fun k_ => some k_ ≠ (.slice (some ad115) t105.length co27 : Value).ownBlock)) (by (with_reducible repeat (first | apply Kd.R_alloc | apply Kd.R_drewN | apply Kd.R_drew)); exact HO_12.out) hg (.inl rfl)); have n2_ := Aside0.mk (hp_); have n3_ := Aside0.mk ((by rw [hw]; exact below_set (HB.out) GB26.out : Below w.heap.size w w30)); clear HO_11; clear HO_12; clear HO_13; clear HB; have HO_11 := n0_; have HO_12 := n1_; have HO_13 := n2_; have HB := n3_; clear n0_ n1_ n2_ n3_; clear hg hw hp_)); try go_wp2_with (first | ((with_reducible refine gate_store (t := 3) (p := 50) rfl ?_); (try (rw [drewN_self wr]; generalize hq_ : World.drewN wr _ = wr; have n0_ := Aside0.mk (Kd.R_at hq_ HO_11.out); have n1_ := Aside0.mk (Kd.R_at hq_ HO_12.out); have n2_ := Aside0.mk (Kd.R_at hq_ HO_13.out); have n3_ := Aside0.mk (below_at hq_ HB.out); clear hq_ HO_11 HO_12 HO_13 HB; have HO_11 := n0_; have HO_12 := n1_; have HO_13 := n2_; have HB := n3_; clear n0_ n1_ n2_ n3_; (try (have HP29 := Kd.R_putg HO_13.out (x14_1 : Int) a3)))); refine store_event (t := 3) (p := 50) (v := ?vo_w30) (w1 := (wr.setCell ⟨go26, (x14_1 : Int).toNat, none⟩ (.int .i64 a3))) ?hg ?ho ?hn ?hr ?_; (case ho => rfl); (case hg => rfl); (case hn => rfl); (case hr => first | (go_simp; done) | (go_simp; rfl)); intro w30 hw; have hg : wr.grownBy w30 (some go26) := (by rw [hw]; exact HP29.2); have hp_ : Kd.R (Kd.int .i64) 3 w30 w.heap.size (fun k_ => some k_ ≠ (.slice (some ad115) t105.length co27 : Value).ownBlock ∧ some k_ ≠ (.slice (some ad116) t108.length co28 : Value).ownBlock) (.slice (some ⟨go26, 0, none⟩) x13_1.length co26) y118 := (by rw [hw, Ny118.out]; exact HP29.1); clear HP29; have n0_ := Aside0.mk (Kd.R_after (v := (.slice (some ⟨go26, 0, none⟩) x13_1.length co26)) (v1 := (.slice (some ⟨go26, 0, none⟩) x13_1.length co26)) (ok := (fun k_ => some k_ ≠ (.slice (some ad116) t108.length co28 : Value).ownBlock)) (by (with_reducible repeat (first | apply Kd.R_alloc | apply Kd.R_drewN | apply Kd.R_drew)); exact HO_11.out) hg (.inl rfl)); have n1_ := Aside0.mk (Kd.R_after (v := (.slice (some ⟨go26, 0, none⟩) x13_1.length co26)) (v1 := (.slice (some ⟨go26, 0, none⟩) x13_1.length co26)) (ok := (fun k_ => some k_ ≠ (.slice (some ad115) t105.length co27 : Value).ownBlock)) (by (with_reducible repeat (first | apply Kd.R_alloc | apply Kd.R_drewN | apply Kd.R_drew)); exact HO_12.out) hg (.inl rfl)); have n2_ := Aside0.mk (hp_); have n3_ := Aside0.mk ((by rw [hw]; exact below_set (HB.out) GB26.out : Below w.heap.size w w30)); clear HO_11; clear HO_12; clear HO_13; clear HB; have HO_11 := n0_; have HO_12 := n1_; have HO_13 := n2_; have HB := n3_; clear n0_ n1_ n2_ n3_; clear hg hw hp_)))
                      go_roundg k1
                      case measure => have := HK1.out; omega
                      case rel => exact ⟨(y118), (wrap64 (x14_1 + 1)), (by first | rfl | (simp; done) | (simp [*]; done)), H', ⟨by have := HK1.out; omega⟩, ⟨Kd.R_far (Kd.R_drewN HO_11.out _) (fun k_ hk_ e_ => hk_.2 (by rw [e_]; rfl)) _⟩, ⟨Kd.R_far (Kd.R_drewN HO_12.out _) (fun k_ hk_ e_ => hk_.2 (by rw [e_]; rfl)) _⟩, ⟨by rw [Ny118.out]; exact (Kd.R_putg (Kd.R_drewN HO_13.out _) (x14_1 : Int) a3).1⟩, ⟨below_set (pw_below_drewN HB.out _) GB26.out⟩⟩
                    · rw [if_neg c25] at H
                      exact absurd H (by simp)
                  · rw [if_neg c24] at H
                    have c24b0 : ((wrap64 ((rd t105 x14_1) + (rd t108 x14_1))) == 1) = false := beq_eq_false_iff_ne.mpr c24
                    have c24b1 : ((wrap64 ((rd t105 x14_1) + (rd t108 x14_1))) != 1) = true := bne_iff_ne.mpr c24
                    by_cases c31 : x14_1 < (x13_1.length : Int)
                    · rw [if_pos c31] at H
                      have c31b0 : decide (x14_1 < (x13_1.length : Int)) = true := decide_eq_true c31
                      clear c31
                      obtain ⟨y119, hy119⟩ : ∃ y_ : List Int, y_ = (x13_1.set (x14_1 : Int).toNat a4) := ⟨_, rfl⟩
                      replace H : (tamisref01_both.l0 k1 a2 a3 a4 t105 t108 y119 (wrap64 (x14_1 + 1))) = some r := by first | (rw [hy119]; with_reducible exact H) | (have H2_ := (Option.bind_some _ _).symm.trans H; rw [hy119]; with_reducible exact H2_) | (have H2_ := (Option.bind_some _ _).symm.trans H; with_reducible exact H2_) | with_reducible exact H | (rw [hy119]; exact H) | exact H
                      have Ny119 := Aside0.mk hy119
                      clear hy119
                      have H' := Aside0.mk H
                      clear H
                      obtain ⟨Ao33, co33, eo33⟩ := Kd.R_slice HO_11.out
                      subst eo33
                      have p115 : 0 ≤ (x14_1 : Int) := of_decide_eq_true (by first | (with_reducible assumption) | assumption)
                      have q115 : x14_1 < (t105.length : Int) := of_decide_eq_true (by first | (with_reducible assumption) | assumption)
                      obtain ⟨ad115, e115, hx115_0⟩ := Kd.at_int (Kd.R_reads' HO_11.out).2.2 x14_1 p115 q115
                      cases e115
                      replace p115 := eq_true p115
                      replace q115 := eq_true q115
                      obtain ⟨Ao34, co34, eo34⟩ := Kd.R_slice HO_12.out
                      subst eo34
                      have p116 : 0 ≤ (x14_1 : Int) := of_decide_eq_true (by first | (with_reducible assumption) | assumption)
                      have q116 : x14_1 < (t108.length : Int) := of_decide_eq_true (by first | (with_reducible assumption) | assumption)
                      obtain ⟨ad116, e116, hx116_0⟩ := Kd.at_int (Kd.R_reads' HO_12.out).2.2 x14_1 p116 q116
                      cases e116
                      replace p116 := eq_true p116
                      replace q116 := eq_true q116
                      have p32 : 0 ≤ (x14_1 : Int) := of_decide_eq_true (by first | (with_reducible assumption) | assumption)
                      have q32 : (x14_1 : Int) < ((x13_1.length : Int) : Int) := of_decide_eq_true (by first | (with_reducible assumption) | assumption)
                      obtain ⟨go32, co32, eo32, gb32, gl32, cl32, HG32⟩ := Kd.R_form HO_13.out (by omega)
                      (first | cases eo32 | (injection eo32 with ea_ en_ ec_; (first | subst ea_ | (injection ea_ with ea_; subst ea_)); subst ec_; clear en_))
                      have GB32 := Aside0.mk gb32
                      have GG32 := Aside0.mk HG32
                      clear gb32 gl32 HG32
                      obtain ⟨hx32_0, hf32_0⟩ := Kd.R_celln 0 HO_13.out (x14_1 : Int) p32 q32
                      replace p32 := eq_true p32
                      replace q32 := eq_true q32
                      have HP35 := Kd.R_putg HO_13.out (x14_1 : Int) a4
                      go_wp2_with (first | ((with_reducible refine gate_store (t := 3) (p := 38) rfl ?_); (try (rw [drewN_self wr]; generalize hq_ : World.drewN wr _ = wr; have n0_ := Aside0.mk (Kd.R_at hq_ HO_11.out); have n1_ := Aside0.mk (Kd.R_at hq_ HO_12.out); have n2_ := Aside0.mk (Kd.R_at hq_ HO_13.out); have n3_ := Aside0.mk (below_at hq_ HB.out); clear hq_ HO_11 HO_12 HO_13 HB; have HO_11 := n0_; have HO_12 := n1_; have HO_13 := n2_; have HB := n3_; clear n0_ n1_ n2_ n3_; (try (have HP35 := Kd.R_putg HO_13.out (x14_1 : Int) a4)))); refine store_event (t := 3) (p := 38) (v := ?vo_w36) (w1 := (wr.setCell ⟨go32, (x14_1 : Int).toNat, none⟩ (.int .i64 a4))) ?hg ?ho ?hn ?hr ?_; (case ho => rfl); (case hg => rfl); (case hn => rfl); (case hr => first | (go_simp; done) | (go_simp; rfl)); intro w36 hw; have hg : wr.grownBy w36 (some go32) := (by rw [hw]; exact HP35.2); have hp_ : Kd.R (Kd.int .i64) 3 w36 w.heap.size (fun k_ => some k_ ≠ (.slice (some ad115) t105.length co33 : Value).ownBlock ∧ some k_ ≠ (.slice (some ad116) t108.length co34 : Value).ownBlock) (.slice (some ⟨go32, 0, none⟩) x13_1.length co32) y119 := (by rw [hw, Ny119.out]; exact HP35.1); clear HP35; have n0_ := Aside0.mk (Kd.R_after (v := (.slice (some ⟨go32, 0, none⟩) x13_1.length co32)) (v1 := (.slice (some ⟨go32, 0, none⟩) x13_1.length co32)) (ok := (fun k_ => some k_ ≠ (.slice (some ad116) t108.length co34 : Value).ownBlock)) (by (with_reducible repeat (first | apply Kd.R_alloc | apply Kd.R_drewN | apply Kd.R_drew)); exact HO_11.out) hg (.inl rfl)); have n1_ := Aside0.mk (Kd.R_after (v := (.slice (some ⟨go32, 0, none⟩) x13_1.length co32)) (v1 := (.slice (some ⟨go32, 0, none⟩) x13_1.length co32)) (ok := (fun k_ => some k_ ≠ (.slice (some ad115) t105.length co33 : Value).ownBlock)) (by (with_reducible repeat (first | apply Kd.R_alloc | apply Kd.R_drewN | apply Kd.R_drew)); exact HO_12.out) hg (.inl rfl)); have n2_ := Aside0.mk (hp_); have n3_ := Aside0.mk ((by rw [hw]; exact below_set (HB.out) GB32.out : Below w.heap.size w w36)); clear HO_11; clear HO_12; clear HO_13; clear HB; have HO_11 := n0_; have HO_12 := n1_; have HO_13 := n2_; have HB := n3_; clear n0_ n1_ n2_ n3_; clear hg hw hp_))
                      repeat (go_quiet (first | ((with_reducible refine gate_store (t := 3) (p := 38) rfl ?_); (try (rw [drewN_self wr]; generalize hq_ : World.drewN wr _ = wr; have n0_ := Aside0.mk (Kd.R_at hq_ HO_11.out); have n1_ := Aside0.mk (Kd.R_at hq_ HO_12.out); have n2_ := Aside0.mk (Kd.R_at hq_ HO_13.out); have n3_ := Aside0.mk (below_at hq_ HB.out); clear hq_ HO_11 HO_12 HO_13 HB; have HO_11 := n0_; have HO_12 := n1_; have HO_13 := n2_; have HB := n3_; clear n0_ n1_ n2_ n3_; (try (have HP35 := Kd.R_putg HO_13.out (x14_1 : Int) a4)))); refine store_event (t := 3) (p := 38) (v := ?vo_w36) (w1 := (wr.setCell ⟨go32, (x14_1 : Int).toNat, none⟩ (.int .i64 a4))) ?hg ?ho ?hn ?hr ?_; (case ho => rfl); (case hg => rfl); (case hn => rfl); (case hr => first | (go_simp; done) | (go_simp; rfl)); intro w36 hw; have hg : wr.grownBy w36 (some go32) := (by rw [hw]; exact HP35.2); have hp_ : Kd.R (Kd.int .i64) 3 w36 w.heap.size (fun k_ => some k_ ≠ (.slice (some ad115) t105.length co33 : Value).ownBlock ∧ some k_ ≠ (.slice (some ad116) t108.length co34 : Value).ownBlock) (.slice (some ⟨go32, 0, none⟩) x13_1.length co32) y119 := (by rw [hw, Ny119.out]; exact HP35.1); clear HP35; have n0_ := Aside0.mk (Kd.R_after (v := (.slice (some ⟨go32, 0, none⟩) x13_1.length co32)) (v1 := (.slice (some ⟨go32, 0, none⟩) x13_1.length co32)) (ok := (fun k_ => some k_ ≠ (.slice (some ad116) t108.length co34 : Value).ownBlock)) (by (with_reducible repeat (first | apply Kd.R_alloc | apply Kd.R_drewN | apply Kd.R_drew)); exact HO_11.out) hg (.inl rfl)); have n1_ := Aside0.mk (Kd.R_after (v := (.slice (some ⟨go32, 0, none⟩) x13_1.length co32)) (v1 := (.slice (some ⟨go32, 0, none⟩) x13_1.length co32)) (ok := (fun k_ => some k_ ≠ (.slice (some ad115) t105.length co33 : Value).ownBlock)) (by (with_reducible repeat (first | apply Kd.R_alloc | apply Kd.R_drewN | apply Kd.R_drew)); exact HO_12.out) hg (.inl rfl)); have n2_ := Aside0.mk (hp_); have n3_ := Aside0.mk ((by rw [hw]; exact below_set (HB.out) GB32.out : Below w.heap.size w w36)); clear HO_11; clear HO_12; clear HO_13; clear HB; have HO_11 := n0_; have HO_12 := n1_; have HO_13 := n2_; have HB := n3_; clear n0_ n1_ n2_ n3_; clear hg hw hp_)); try go_wp2_with (first | ((with_reducible refine gate_store (t := 3) (p := 38) rfl ?_); (try (rw [drewN_self wr]; generalize hq_ : World.drewN wr _ = wr; have n0_ := Aside0.mk (Kd.R_at hq_ HO_11.out); have n1_ := Aside0.mk (Kd.R_at hq_ HO_12.out); have n2_ := Aside0.mk (Kd.R_at hq_ HO_13.out); have n3_ := Aside0.mk (below_at hq_ HB.out); clear hq_ HO_11 HO_12 HO_13 HB; have HO_11 := n0_; have HO_12 := n1_; have HO_13 := n2_; have HB := n3_; clear n0_ n1_ n2_ n3_; (try (have HP35 := Kd.R_putg HO_13.out (x14_1 : Int) a4)))); refine store_event (t := 3) (p := 38) (v := ?vo_w36) (w1 := (wr.setCell ⟨go32, (x14_1 : Int).toNat, none⟩ (.int .i64 a4))) ?hg ?ho ?hn ?hr ?_; (case ho => rfl); (case hg => rfl); (case hn => rfl); (case hr => first | (go_simp; done) | (go_simp; rfl)); intro w36 hw; have hg : wr.grownBy w36 (some go32) := (by rw [hw]; exact HP35.2); have hp_ : Kd.R (Kd.int .i64) 3 w36 w.heap.size (fun k_ => some k_ ≠ (.slice (some ad115) t105.length co33 : Value).ownBlock ∧ some k_ ≠ (.slice (some ad116) t108.length co34 : Value).ownBlock) (.slice (some ⟨go32, 0, none⟩) x13_1.length co32) y119 := (by rw [hw, Ny119.out]; exact HP35.1); clear HP35; have n0_ := Aside0.mk (Kd.R_after (v := (.slice (some ⟨go32, 0, none⟩) x13_1.length co32)) (v1 := (.slice (some ⟨go32, 0, none⟩) x13_1.length co32)) (ok := (fun k_ => some k_ ≠ (.slice (some ad116) t108.length co34 : Value).ownBlock)) (by (with_reducible repeat (first | apply Kd.R_alloc | apply Kd.R_drewN | apply Kd.R_drew)); exact HO_11.out) hg (.inl rfl)); have n1_ := Aside0.mk (Kd.R_after (v := (.slice (some ⟨go32, 0, none⟩) x13_1.length co32)) (v1 := (.slice (some ⟨go32, 0, none⟩) x13_1.length co32)) (ok := (fun k_ => some k_ ≠ (.slice (some ad115) t105.length co33 : Value).ownBlock)) (by (with_reducible repeat (first | apply Kd.R_alloc | apply Kd.R_drewN | apply Kd.R_drew)); exact HO_12.out) hg (.inl rfl)); have n2_ := Aside0.mk (hp_); have n3_ := Aside0.mk ((by rw [hw]; exact below_set (HB.out) GB32.out : Below w.heap.size w w36)); clear HO_11; clear HO_12; clear HO_13; clear HB; have HO_11 := n0_; have HO_12 := n1_; have HO_13 := n2_; have HB := n3_; clear n0_ n1_ n2_ n3_; clear hg hw hp_)))
                      go_roundg k1
                      case measure => have := HK1.out; omega
                      case rel => exact ⟨(y119), (wrap64 (x14_1 + 1)), (by first | rfl | (simp; done) | (simp [*]; done)), H', ⟨by have := HK1.out; omega⟩, ⟨Kd.R_far (Kd.R_drewN HO_11.out _) (fun k_ hk_ e_ => hk_.2 (by rw [e_]; rfl)) _⟩, ⟨Kd.R_far (Kd.R_drewN HO_12.out _) (fun k_ hk_ e_ => hk_.2 (by rw [e_]; rfl)) _⟩, ⟨by rw [Ny119.out]; exact (Kd.R_putg (Kd.R_drewN HO_13.out _) (x14_1 : Int) a4).1⟩, ⟨below_set (pw_below_drewN HB.out _) GB32.out⟩⟩
                    · rw [if_neg c31] at H
                      exact absurd H (by simp)
              · rw [if_neg c16] at H
                exact absurd H (by simp)
            · rw [if_neg c15] at H
              exact absurd H (by simp)
          · rw [if_neg c14] at H
            exact absurd H (by simp)
        · rw [if_neg c13] at H
          have c13b0 : decide (x14_1 < 32) = false := decide_eq_false c13
          clear c13
          replace H := Option.bind_eq_some_iff.mp H
          obtain ⟨t114, A370, H⟩ := H
          replace H : (some t114) = some r := H
          have A37 := Aside0.mk A370
          clear A370
          obtain rfl := Option.some.inj H
          obtain ⟨Ao38, co38, eo38⟩ := Kd.R_slice HO_13.out
          subst eo38
          go_wp2_with (first | (go_at_call 31; (with_reducible refine (tamisref01_value.calls k1 _ _ x13_1 t114 _ ?side1 ?side2 A37.out).mono ?_); (case side1 => repeat (first | exact (Kd.R_reads' HO_13.out).2.2 | (with_reducible refine Kd.C_alloc ?_ _) | (with_reducible refine Kd.C_drewN ?_ _) | (with_reducible refine Kd.C_drew ?_))); (case side2 => exact (Kd.R_reads' HO_13.out).2.1); rintro e w' ⟨rfl, ⟨nd, rfl⟩⟩; (try first | exact ⟨rfl, _, World.drewN_drewN _ _ _⟩ | exact ⟨rfl, _, Eq.trans (World.drewN_drewN _ _ _) (congrArg (World.drewN _) (Nat.add_assoc _ _ _))⟩)))
          repeat (go_quiet (first | (go_at_call 31; (with_reducible refine (tamisref01_value.calls k1 _ _ x13_1 t114 _ ?side1 ?side2 A37.out).mono ?_); (case side1 => repeat (first | exact (Kd.R_reads' HO_13.out).2.2 | (with_reducible refine Kd.C_alloc ?_ _) | (with_reducible refine Kd.C_drewN ?_ _) | (with_reducible refine Kd.C_drew ?_))); (case side2 => exact (Kd.R_reads' HO_13.out).2.1); rintro e w' ⟨rfl, ⟨nd, rfl⟩⟩; (try first | exact ⟨rfl, _, World.drewN_drewN _ _ _⟩ | exact ⟨rfl, _, Eq.trans (World.drewN_drewN _ _ _) (congrArg (World.drewN _) (Nat.add_assoc _ _ _))⟩))); try go_wp2_with (first | (go_at_call 31; (with_reducible refine (tamisref01_value.calls k1 _ _ x13_1 t114 _ ?side1 ?side2 A37.out).mono ?_); (case side1 => repeat (first | exact (Kd.R_reads' HO_13.out).2.2 | (with_reducible refine Kd.C_alloc ?_ _) | (with_reducible refine Kd.C_drewN ?_ _) | (with_reducible refine Kd.C_drew ?_))); (case side2 => exact (Kd.R_reads' HO_13.out).2.1); rintro e w' ⟨rfl, ⟨nd, rfl⟩⟩; (try first | exact ⟨rfl, _, World.drewN_drewN _ _ _⟩ | exact ⟨rfl, _, Eq.trans (World.drewN_drewN _ _ _) (congrArg (World.drewN _) (Nat.add_assoc _ _ _))⟩))))
          go_ret
          exact ⟨by first | rfl | (simp [errW_none, errW_some] <;> rfl) | (simp [*, errW_none, errW_some] <;> rfl), by repeat (first | (with_reducible first | exact HB.out | apply below_alloc | apply pw_below_drewN | apply below_drew1) | exact HB.out)⟩
  · rw [if_neg c8] at H
    exact absurd H (by simp)

end Go.Proofs.Ythcanciolelmgaa.PWordTells
