-- PRINTED BY print.sh 35421559b90ae4d0a3588c463048766b98c2df88dd9212a6774a882060cdf62d: not written by this session
import Derived.Test.YthcanciolelmgaaPWordDivx0
import Derived.Test.YthcanciolelmgaaPWordDivx1
namespace Go.Proofs.Ythcanciolelmgaa.PWordDiv
open Go.RowKit Go.Proofs.YthcanciolelmgaaW.PrintWords Go.Proofs.YthcanciolelmgaaW.PrintLast Go.Proofs.YthcanciolelmgaaW.PrintMore
attribute [local go_sem] max2_int min2_int max_two min_two max_three min_three max_four min_four   -- for this text's walks alone
set_option linter.unusedVariables false
set_option linter.unusedSimpArgs false

/-! ### tamislaw01_WordDiv: function 5 -/
def tamislaw01_WordDiv.j0 : Nat → Int → Int → Int → Bool → Bool → Option (Bool)
  | 0, _, _, _, _, _ => none
  | k + 1, x0, x1, x5, x6, x24 => if x24 = true then (some false) else ((word_Alu.f 32 x5 x1).bind fun bt127 => ((word_Alu.f 16 x0 bt127.1).bind fun bt129 => (if x6 = true then (if bt129.1 < x1 then (some (decide (x5 ≤ x0))) else (some false)) else (if x5 = 0 then (some true) else (some false)))))
def tamislaw01_WordDiv.f (k : Nat) (a0 : Int) (a1 : Int) : Option (Bool) := (word_Alu.f 48 a0 a1).bind fun bt124 => ((tamislaw01_awake.f).bind fun t126 => (if t126 = true then (tamislaw01_WordDiv.j0 k a0 a1 bt124.1 bt124.2 (bt124.2 != (a1 != 0))) else (tamislaw01_WordDiv.j0 k a0 a1 bt124.1 bt124.2 true)))
theorem tamislaw01_WordDiv.mono_l : ∀ k, (∀ y0 y1 y2 y3 y4, LeO (tamislaw01_WordDiv.j0 k y0 y1 y2 y3 y4) (tamislaw01_WordDiv.j0 (k + 1) y0 y1 y2 y3 y4))
  | 0 => fun _ _ _ _ _ r h => by simp [tamislaw01_WordDiv.j0] at h
  | k + 1 => by
    have ih0 := tamislaw01_WordDiv.mono_l k
    · intro y0 y1 y2 y3 y4
      unfold tamislaw01_WordDiv.j0
      repeat' first
      | (with_reducible exact ih0 _ _ _ _ _)
      | (with_reducible exact LeO.refl _)
      | (with_reducible exact LeO.none _)
      | (with_reducible refine LeO.ite ?_ ?_)
      | (with_reducible refine LeO.bind ?_ (fun _ => ?_))
      | exact ih0 _ _ _ _ _
      | exact LeO.none _
      | refine LeO.ite ?_ ?_
      | refine LeO.bind ?_ (fun _ => ?_)
theorem tamislaw01_WordDiv.mono : ∀ a0 a1 k, LeO (tamislaw01_WordDiv.f k a0 a1) (tamislaw01_WordDiv.f (k + 1) a0 a1) := by
  intro a0 a1 k
  have ih0 := tamislaw01_WordDiv.mono_l k
  unfold tamislaw01_WordDiv.f
  repeat' first
      | (with_reducible exact ih0 _ _ _ _ _)
      | (with_reducible exact LeO.refl _)
      | (with_reducible exact LeO.none _)
      | (with_reducible refine LeO.ite ?_ ?_)
      | (with_reducible refine LeO.bind ?_ (fun _ => ?_))
      | exact ih0 _ _ _ _ _
      | exact LeO.none _
      | refine LeO.ite ?_ ?_
      | refine LeO.bind ?_ (fun _ => ?_)
set_option maxHeartbeats 8000000 in
set_option maxRecDepth 100000 in
theorem tamislaw01_WordDiv.calls (k : Nat) (a0 : Int) (a1 : Int) (r : Bool) (w : World) (h : tamislaw01_WordDiv.f k a0 a1 = some r) :
    Calls Try.prog 5 #[.int .u32 a0, .int .u32 a1] w fun e w' => e = .returned (.bool r) ∧ Drawn0 w w' := by
  have H : ((word_Alu.f 48 a0 a1).bind fun bt124 => ((tamislaw01_awake.f).bind fun t126 => (if t126 = true then (tamislaw01_WordDiv.j0 k a0 a1 bt124.1 bt124.2 (bt124.2 != (a1 != 0))) else (tamislaw01_WordDiv.j0 k a0 a1 bt124.1 bt124.2 true)))) = some r := h
  clear h
  replace H := Option.bind_eq_some_iff.mp H
  obtain ⟨⟨t124, t125⟩, A30, H⟩ := H
  replace H : ((tamislaw01_awake.f).bind fun t126 => (if t126 = true then (tamislaw01_WordDiv.j0 k a0 a1 t124 t125 (t125 != (a1 != 0))) else (tamislaw01_WordDiv.j0 k a0 a1 t124 t125 true))) = some r := H
  have A3 := Aside0.mk A30
  clear A30
  have HC4 := Aside0.mk H
  clear H
  go_enter Try.func5, Try.ntmps5
  go_upto_region 2 with (first | ((with_reducible refine gate_callee (f := 12) rfl ?_); refine goesL_ (some 14) rfl rfl Try.func12 (by kernel_rfl) rfl #[.int .i64 48, .int .u32 a0, .int .u32 a1] rfl (by (try simp only [List.map_toArray, List.map_cons, List.map_nil]); first | done | rfl | (simp only [List.length_drop, List.length_take]; rfl)) ?_; (with_reducible refine (word_Alu.calls 48 a0 a1 t124 t125 _ A3.out).mono ?_); rintro e w' ⟨rfl, ⟨nd, rfl⟩⟩; refine ⟨_, rfl, ?_⟩))
  (try simp only [Act.put, List.setIfInBounds_toArray, List.set_cons_zero, List.set_cons_succ])
  go_cut [24] (fun v24 wc => ∃ (kq : Nat) (x24_3 : Bool), v24 = .bool x24_3 ∧ Aside0 (tamislaw01_WordDiv.j0 kq a0 a1 t124 t125 x24_3 = some r) ∧ Aside0 (kq ≤ k) ∧ Drawn0 w wc)
  case first =>
    have H := HC4.out
    clear HC4
    replace H := Option.bind_eq_some_iff.mp H
    obtain ⟨t126, A50, H⟩ := H
    replace H : (if t126 = true then (tamislaw01_WordDiv.j0 k a0 a1 t124 t125 (t125 != (a1 != 0))) else (tamislaw01_WordDiv.j0 k a0 a1 t124 t125 true)) = some r := H
    have A5 := Aside0.mk A50
    clear A50
    by_cases c6 : t126 = true
    · subst c6
      have H1 : (tamislaw01_WordDiv.j0 k a0 a1 t124 t125 (t125 != (a1 != 0))) = some r := by rw [if_pos rfl] at H; exact H
      clear H
      have H := H1
      clear H1
      have H' := Aside0.mk H
      clear H
      go_wp2_with (first | ((with_reducible refine gate_callee (f := 14) rfl ?_); refine goesL_ (some 17) rfl rfl Try.func14 (by kernel_rfl) rfl #[] rfl (by (try simp only [List.map_toArray, List.map_cons, List.map_nil]); first | done | rfl | (simp only [List.length_drop, List.length_take]; rfl)) ?_; (with_reducible refine (tamislaw01_awake.calls  true _ A5.out).mono ?_); rintro e w' ⟨rfl, ⟨nd, rfl⟩⟩; refine ⟨_, rfl, ?_⟩))
      go_meet
      case rel => exact ⟨_, ((t125 != (a1 != 0))), (by first | rfl | (simp; done) | (simp [*]; done)), H', ⟨by first | omega | exact Nat.le_refl _⟩, by repeat (first | exact Drawn0.refl _ | apply Drawn0.step)⟩
    · replace c6 := Bool.eq_false_iff.mpr c6
      subst c6
      have H1 : (tamislaw01_WordDiv.j0 k a0 a1 t124 t125 true) = some r := by rw [if_neg (show ¬ (false = true) by decide)] at H; exact H
      clear H
      have H := H1
      clear H1
      have H' := Aside0.mk H
      clear H
      go_wp2_with (first | ((with_reducible refine gate_callee (f := 14) rfl ?_); refine goesL_ (some 17) rfl rfl Try.func14 (by kernel_rfl) rfl #[] rfl (by (try simp only [List.map_toArray, List.map_cons, List.map_nil]); first | done | rfl | (simp only [List.length_drop, List.length_take]; rfl)) ?_; (with_reducible refine (tamislaw01_awake.calls  false _ A5.out).mono ?_); rintro e w' ⟨rfl, ⟨nd, rfl⟩⟩; refine ⟨_, rfl, ?_⟩))
      go_meet
      case rel => exact ⟨_, (true), (by first | rfl | (simp; done) | (simp [*]; done)), H', ⟨by first | omega | exact Nat.le_refl _⟩, by repeat (first | exact Drawn0.refl _ | apply Drawn0.step)⟩
  case rest =>
    clear HC4
    try clear c1
    try clear p2
    try clear c5
    try clear c6
    obtain ⟨kq, x24_3, rfl, HA, HJ3, ⟨mc3, rfl⟩⟩ := hcut
    cases kq with
    | zero => exact absurd HA.out (by simp [tamislaw01_WordDiv.j0])
    | succ kj3 =>
      have H := HA.out
      clear HA
      simp only [tamislaw01_WordDiv.j0] at H
      by_cases c7 : x24_3 = true
      · subst c7
        have H1 : (some false) = some r := by rw [if_pos rfl] at H; exact H
        clear H
        have H := H1
        clear H1
        obtain rfl := Option.some.inj H
        go_wp2
        go_ret
        exact ⟨by first | rfl | (simp; done) | (simp [*]; done), by repeat (first | exact Drawn0.refl _ | apply Drawn0.step)⟩
      · replace c7 := Bool.eq_false_iff.mpr c7
        subst c7
        have H1 : ((word_Alu.f 32 t124 a1).bind fun bt127 => ((word_Alu.f 16 a0 bt127.1).bind fun bt129 => (if t125 = true then (if bt129.1 < a1 then (some (decide (t124 ≤ a0))) else (some false)) else (if t124 = 0 then (some true) else (some false))))) = some r := by rw [if_neg (show ¬ (false = true) by decide)] at H; exact H
        clear H
        have H := H1
        clear H1
        replace H := Option.bind_eq_some_iff.mp H
        obtain ⟨⟨t127, t128⟩, A80, H⟩ := H
        replace H : ((word_Alu.f 16 a0 t127).bind fun bt129 => (if t125 = true then (if bt129.1 < a1 then (some (decide (t124 ≤ a0))) else (some false)) else (if t124 = 0 then (some true) else (some false)))) = some r := H
        have A8 := Aside0.mk A80
        clear A80
        replace H := Option.bind_eq_some_iff.mp H
        obtain ⟨⟨t129, t130⟩, A90, H⟩ := H
        replace H : (if t125 = true then (if t129 < a1 then (some (decide (t124 ≤ a0))) else (some false)) else (if t124 = 0 then (some true) else (some false))) = some r := H
        have A9 := Aside0.mk A90
        clear A90
        by_cases c10 : t125 = true
        · subst c10
          have H1 : (if t129 < a1 then (some (decide (t124 ≤ a0))) else (some false)) = some r := by rw [if_pos rfl] at H; exact H
          clear H
          have H := H1
          clear H1
          by_cases c11 : t129 < a1
          · rw [if_pos c11] at H
            have c11b0 : decide (t129 < a1) = true := decide_eq_true c11
            clear c11
            obtain rfl := Option.some.inj H
            go_wp2_with (first | ((with_reducible refine gate_callee (f := 12) rfl ?_); refine goesL_ (some 28) rfl rfl Try.func12 (by kernel_rfl) rfl #[.int .i64 32, .int .u32 t124, .int .u32 a1] rfl (by (try simp only [List.map_toArray, List.map_cons, List.map_nil]); first | done | rfl | (simp only [List.length_drop, List.length_take]; rfl)) ?_; (with_reducible refine (word_Alu.calls 32 t124 a1 t127 t128 _ A8.out).mono ?_); rintro e w' ⟨rfl, ⟨nd, rfl⟩⟩; refine ⟨_, rfl, ?_⟩) | ((with_reducible refine gate_callee (f := 12) rfl ?_); refine goesL_ (some 34) rfl rfl Try.func12 (by kernel_rfl) rfl #[.int .i64 16, .int .u32 a0, .int .u32 t127] rfl (by (try simp only [List.map_toArray, List.map_cons, List.map_nil]); first | done | rfl | (simp only [List.length_drop, List.length_take]; rfl)) ?_; (with_reducible refine (word_Alu.calls 16 a0 t127 t129 t130 _ A9.out).mono ?_); rintro e w' ⟨rfl, ⟨nd, rfl⟩⟩; refine ⟨_, rfl, ?_⟩))
            go_ret
            exact ⟨by first | rfl | (simp; done) | (simp [*]; done), by repeat (first | exact Drawn0.refl _ | apply Drawn0.step)⟩
          · rw [if_neg c11] at H
            have c11b0 : decide (t129 < a1) = false := decide_eq_false c11
            clear c11
            obtain rfl := Option.some.inj H
            go_wp2_with (first | ((with_reducible refine gate_callee (f := 12) rfl ?_); refine goesL_ (some 28) rfl rfl Try.func12 (by kernel_rfl) rfl #[.int .i64 32, .int .u32 t124, .int .u32 a1] rfl (by (try simp only [List.map_toArray, List.map_cons, List.map_nil]); first | done | rfl | (simp only [List.length_drop, List.length_take]; rfl)) ?_; (with_reducible refine (word_Alu.calls 32 t124 a1 t127 t128 _ A8.out).mono ?_); rintro e w' ⟨rfl, ⟨nd, rfl⟩⟩; refine ⟨_, rfl, ?_⟩) | ((with_reducible refine gate_callee (f := 12) rfl ?_); refine goesL_ (some 34) rfl rfl Try.func12 (by kernel_rfl) rfl #[.int .i64 16, .int .u32 a0, .int .u32 t127] rfl (by (try simp only [List.map_toArray, List.map_cons, List.map_nil]); first | done | rfl | (simp only [List.length_drop, List.length_take]; rfl)) ?_; (with_reducible refine (word_Alu.calls 16 a0 t127 t129 t130 _ A9.out).mono ?_); rintro e w' ⟨rfl, ⟨nd, rfl⟩⟩; refine ⟨_, rfl, ?_⟩))
            go_ret
            exact ⟨by first | rfl | (simp; done) | (simp [*]; done), by repeat (first | exact Drawn0.refl _ | apply Drawn0.step)⟩
        · replace c10 := Bool.eq_false_iff.mpr c10
          subst c10
          have H1 : (if t124 = 0 then (some true) else (some false)) = some r := by rw [if_neg (show ¬ (false = true) by decide)] at H; exact H
          clear H
          have H := H1
          clear H1
          by_cases c12 : t124 = 0
          · rw [if_pos c12] at H
            have c12b0 : (t124 == 0) = true := beq_iff_eq.mpr c12
            have c12b1 : (t124 != 0) = false := bne_eq_false_iff_eq.mpr c12
            clear c12
            obtain rfl := Option.some.inj H
            go_wp2_with (first | ((with_reducible refine gate_callee (f := 12) rfl ?_); refine goesL_ (some 28) rfl rfl Try.func12 (by kernel_rfl) rfl #[.int .i64 32, .int .u32 t124, .int .u32 a1] rfl (by (try simp only [List.map_toArray, List.map_cons, List.map_nil]); first | done | rfl | (simp only [List.length_drop, List.length_take]; rfl)) ?_; (with_reducible refine (word_Alu.calls 32 t124 a1 t127 t128 _ A8.out).mono ?_); rintro e w' ⟨rfl, ⟨nd, rfl⟩⟩; refine ⟨_, rfl, ?_⟩) | ((with_reducible refine gate_callee (f := 12) rfl ?_); refine goesL_ (some 34) rfl rfl Try.func12 (by kernel_rfl) rfl #[.int .i64 16, .int .u32 a0, .int .u32 t127] rfl (by (try simp only [List.map_toArray, List.map_cons, List.map_nil]); first | done | rfl | (simp only [List.length_drop, List.length_take]; rfl)) ?_; (with_reducible refine (word_Alu.calls 16 a0 t127 t129 t130 _ A9.out).mono ?_); rintro e w' ⟨rfl, ⟨nd, rfl⟩⟩; refine ⟨_, rfl, ?_⟩))
            go_ret
            exact ⟨by first | rfl | (simp; done) | (simp [*]; done), by repeat (first | exact Drawn0.refl _ | apply Drawn0.step)⟩
          · rw [if_neg c12] at H
            have c12b0 : (t124 == 0) = false := beq_eq_false_iff_ne.mpr c12
            have c12b1 : (t124 != 0) = true := bne_iff_ne.mpr c12
            obtain rfl := Option.some.inj H
            go_wp2_with (first | ((with_reducible refine gate_callee (f := 12) rfl ?_); refine goesL_ (some 28) rfl rfl Try.func12 (by kernel_rfl) rfl #[.int .i64 32, .int .u32 t124, .int .u32 a1] rfl (by (try simp only [List.map_toArray, List.map_cons, List.map_nil]); first | done | rfl | (simp only [List.length_drop, List.length_take]; rfl)) ?_; (with_reducible refine (word_Alu.calls 32 t124 a1 t127 t128 _ A8.out).mono ?_); rintro e w' ⟨rfl, ⟨nd, rfl⟩⟩; refine ⟨_, rfl, ?_⟩) | ((with_reducible refine gate_callee (f := 12) rfl ?_); refine goesL_ (some 34) rfl rfl Try.func12 (by kernel_rfl) rfl #[.int .i64 16, .int .u32 a0, .int .u32 t127] rfl (by (try simp only [List.map_toArray, List.map_cons, List.map_nil]); first | done | rfl | (simp only [List.length_drop, List.length_take]; rfl)) ?_; (with_reducible refine (word_Alu.calls 16 a0 t127 t129 t130 _ A9.out).mono ?_); rintro e w' ⟨rfl, ⟨nd, rfl⟩⟩; refine ⟨_, rfl, ?_⟩))
            go_ret
            exact ⟨by first | rfl | (simp; done) | (simp [*]; done), by repeat (first | exact Drawn0.refl _ | apply Drawn0.step)⟩

/-- THE ONE PURE STATEMENT of tamislaw01_WordDiv: yours. -/
def tamislaw01_WordDiv.Pure : Prop := ∀ (a0 : Int) (a1 : Int), (Lit.int .u32 a0).wf = true → (Lit.int .u32 a1).wf = true → ∃ k, tamislaw01_WordDiv.f k a0 a1 = some true
theorem tamislaw01_WordDiv.walk (P : tamislaw01_WordDiv.Pure) (a0 : Int) (a1 : Int) (w : World) (w0 : (Lit.int .u32 a0).wf = true) (w1 : (Lit.int .u32 a1).wf = true) :
    Calls Try.prog 5 #[.int .u32 a0, .int .u32 a1] w fun e w' => e = .returned (.bool true) ∧ Below w.heap.size w w' := by
  obtain ⟨k, h⟩ := P a0 a1 w0 w1
  refine (tamislaw01_WordDiv.calls k a0 a1 true w h).mono ?_
  rintro e w' ⟨rfl, hd⟩
  exact ⟨rfl, hd.below⟩

end Go.Proofs.Ythcanciolelmgaa.PWordDiv
