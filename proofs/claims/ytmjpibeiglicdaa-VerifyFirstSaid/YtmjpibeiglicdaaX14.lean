/- Functions of the program as plain Lean functions, and their contracts; written by a program out of the translation. -/
import Derived.Test.YtmjpibeiglicdaaX0
import Derived.Test.YtmjpibeiglicdaaX2
import Derived.Test.YtmjpibeiglicdaaX4
import Derived.Test.YtmjpibeiglicdaaX5
import Derived.Test.YtmjpibeiglicdaaX7
namespace Go.Proofs.Ytmjpibeiglicdaa.X
open Go.RowKit Go.Proofs.YtmjpibeiglicdaaW.PrintWords Go.Proofs.YtmjpibeiglicdaaW.PrintLast Go.Proofs.YtmjpibeiglicdaaW.PrintMore
attribute [local go_sem] max2_int min2_int max_two min_two max_three min_three max_four min_four   -- for this text's walks alone
set_option linter.unusedVariables false
set_option linter.unusedSimpArgs false

/-! ### tamislaw06_VerifyFirst: function 11 -/
mutual
def tamislaw06_VerifyFirst.j0 : Nat → List (S56) → Bool → Option (Bool)
  | 0, _, _ => none
  | k + 1, x0, x20 => if x20 = true then ((tamislaw06_awake.f).bind fun t353 => (some t353)) else ((some (([] : List (S56)) : List (S56))).bind fun y354 => (if y354.length + x0.length < 17592186044416 then ((verify_Check.f k (y354 ++ x0)).bind fun bt360 => (tamislaw06_VerifyFirst.l0 k x0 bt360.1 bt360.2 (x0.length : Int) (wrap64 ((x0.length : Int) - 1)))) else (none)))
def tamislaw06_VerifyFirst.l0 : Nat → List (S56) → Int → Int → Int → Int → Option (Bool)
  | 0, _, _, _, _, _ => none
  | k + 1, x0, x3, x4, x5, x6 => if x6 ≥ 0 then ((verify_Local.f k x0 x6).bind fun t362 => (if t362 = 0 then (tamislaw06_VerifyFirst.l0 k x0 x3 x4 x5 (wrap64 (x6 - 1))) else (tamislaw06_VerifyFirst.l0 k x0 x3 x4 x6 (wrap64 (x6 - 1))))) else (if x5 < (x0.length : Int) then (if x3 = x5 then ((verify_Local.f k x0 x5).bind fun t363 => (some (x4 == t363))) else (some false)) else (if 0 ≤ (wrap64 ((x0.length : Int) - 1)) then (if (wrap64 ((x0.length : Int) - 1)) < (x0.length : Int) then ((tamisref04_Kind.f k ((rd_T56 x0 (wrap64 ((x0.length : Int) - 1))).f0)).bind fun t365 => (if t365 = 13 then (tamislaw06_VerifyFirst.j2 k x0 x3 x4 false) else (tamislaw06_VerifyFirst.j2 k x0 x3 x4 (t365 != 14)))) else (none)) else (none)))
def tamislaw06_VerifyFirst.j2 : Nat → List (S56) → Int → Int → Bool → Option (Bool)
  | 0, _, _, _, _ => none
  | k + 1, x0, x3, x4, x70 => if x70 = true then (if x3 = (wrap64 ((x0.length : Int) - 1)) then (some (x4 == 12)) else (some false)) else (if x4 = 0 then (some (x3 == 0)) else (if x3 < 0 then (tamislaw06_VerifyFirst.j3 k x0 x3 x4 true) else (tamislaw06_VerifyFirst.j3 k x0 x3 x4 (decide (x3 ≥ (x0.length : Int))))))
def tamislaw06_VerifyFirst.j3 : Nat → List (S56) → Int → Int → Bool → Option (Bool)
  | 0, _, _, _, _ => none
  | k + 1, x0, x3, x4, x91 => if x91 = true then (some false) else (if 0 ≤ x3 then (if x3 < (x0.length : Int) then ((tamisref04_Kind.f k ((rd_T56 x0 x3).f0)).bind fun t367 => (if x4 = 10 then (if t367 = 4 then ((tamisref06_Without.f k x0 (wrap64 ((rd_T56 x0 x3).f3))).bind fun t369 => (if x3 < (t369.length : Int) then (some (rdOf false t369 x3)) else (none))) else (if t367 = 6 then ((tamisref06_Without.f k x0 (wrap64 ((rd_T56 x0 x3).f3))).bind fun t374 => (if x3 < (t374.length : Int) then (some (rdOf false t374 x3)) else (none))) else (some false))) else (some false))) else (none)) else (none))
end
def tamislaw06_VerifyFirst.f (k : Nat) (l0 : List (S56)) : Option (Bool) := (tamislaw06_awake.f).bind fun t352 => (if t352 = true then (if (l0.length : Int) = 0 then (tamislaw06_VerifyFirst.j0 k l0 true) else (tamislaw06_VerifyFirst.j0 k l0 (decide ((l0.length : Int) > 300)))) else (tamislaw06_VerifyFirst.j0 k l0 true))
theorem tamislaw06_VerifyFirst.mono_l : ∀ k, (∀ y0 y1, LeO (tamislaw06_VerifyFirst.j0 k y0 y1) (tamislaw06_VerifyFirst.j0 (k + 1) y0 y1)) ∧ (∀ y0 y1 y2 y3 y4, LeO (tamislaw06_VerifyFirst.l0 k y0 y1 y2 y3 y4) (tamislaw06_VerifyFirst.l0 (k + 1) y0 y1 y2 y3 y4)) ∧ (∀ y0 y1 y2 y3, LeO (tamislaw06_VerifyFirst.j2 k y0 y1 y2 y3) (tamislaw06_VerifyFirst.j2 (k + 1) y0 y1 y2 y3)) ∧ (∀ y0 y1 y2 y3, LeO (tamislaw06_VerifyFirst.j3 k y0 y1 y2 y3) (tamislaw06_VerifyFirst.j3 (k + 1) y0 y1 y2 y3))
  | 0 => ⟨fun _ _ r h => by simp [tamislaw06_VerifyFirst.j0] at h, fun _ _ _ _ _ r h => by simp [tamislaw06_VerifyFirst.l0] at h, fun _ _ _ _ r h => by simp [tamislaw06_VerifyFirst.j2] at h, fun _ _ _ _ r h => by simp [tamislaw06_VerifyFirst.j3] at h⟩
  | k + 1 => by
    obtain ⟨ih0, ih1, ih2, ih3⟩ := tamislaw06_VerifyFirst.mono_l k
    refine ⟨?_, ?_, ?_, ?_⟩
    · intro y0 y1
      unfold tamislaw06_VerifyFirst.j0
      repeat' first
      | (with_reducible exact ih0 _ _)
      | (with_reducible exact ih1 _ _ _ _ _)
      | (with_reducible exact ih2 _ _ _ _)
      | (with_reducible exact ih3 _ _ _ _)
      | (with_reducible exact tamisref04_Kind.mono _ _)
      | (with_reducible exact tamisref06_Without.mono _ _ _)
      | (with_reducible exact verify_Check.mono _ _)
      | (with_reducible exact verify_Local.mono _ _ _)
      | (with_reducible exact LeO.refl _)
      | (with_reducible exact LeO.none _)
      | (with_reducible refine LeO.ite ?_ ?_)
      | (with_reducible refine LeO.bind ?_ (fun _ => ?_))
      | exact ih0 _ _
      | exact ih1 _ _ _ _ _
      | exact ih2 _ _ _ _
      | exact ih3 _ _ _ _
      | exact tamisref04_Kind.mono _ _
      | exact tamisref06_Without.mono _ _ _
      | exact verify_Check.mono _ _
      | exact verify_Local.mono _ _ _
      | exact LeO.none _
      | refine LeO.ite ?_ ?_
      | refine LeO.bind ?_ (fun _ => ?_)
    · intro y0 y1 y2 y3 y4
      unfold tamislaw06_VerifyFirst.l0
      repeat' first
      | (with_reducible exact ih0 _ _)
      | (with_reducible exact ih1 _ _ _ _ _)
      | (with_reducible exact ih2 _ _ _ _)
      | (with_reducible exact ih3 _ _ _ _)
      | (with_reducible exact tamisref04_Kind.mono _ _)
      | (with_reducible exact tamisref06_Without.mono _ _ _)
      | (with_reducible exact verify_Check.mono _ _)
      | (with_reducible exact verify_Local.mono _ _ _)
      | (with_reducible exact LeO.refl _)
      | (with_reducible exact LeO.none _)
      | (with_reducible refine LeO.ite ?_ ?_)
      | (with_reducible refine LeO.bind ?_ (fun _ => ?_))
      | exact ih0 _ _
      | exact ih1 _ _ _ _ _
      | exact ih2 _ _ _ _
      | exact ih3 _ _ _ _
      | exact tamisref04_Kind.mono _ _
      | exact tamisref06_Without.mono _ _ _
      | exact verify_Check.mono _ _
      | exact verify_Local.mono _ _ _
      | exact LeO.none _
      | refine LeO.ite ?_ ?_
      | refine LeO.bind ?_ (fun _ => ?_)
    · intro y0 y1 y2 y3
      unfold tamislaw06_VerifyFirst.j2
      repeat' first
      | (with_reducible exact ih0 _ _)
      | (with_reducible exact ih1 _ _ _ _ _)
      | (with_reducible exact ih2 _ _ _ _)
      | (with_reducible exact ih3 _ _ _ _)
      | (with_reducible exact tamisref04_Kind.mono _ _)
      | (with_reducible exact tamisref06_Without.mono _ _ _)
      | (with_reducible exact verify_Check.mono _ _)
      | (with_reducible exact verify_Local.mono _ _ _)
      | (with_reducible exact LeO.refl _)
      | (with_reducible exact LeO.none _)
      | (with_reducible refine LeO.ite ?_ ?_)
      | (with_reducible refine LeO.bind ?_ (fun _ => ?_))
      | exact ih0 _ _
      | exact ih1 _ _ _ _ _
      | exact ih2 _ _ _ _
      | exact ih3 _ _ _ _
      | exact tamisref04_Kind.mono _ _
      | exact tamisref06_Without.mono _ _ _
      | exact verify_Check.mono _ _
      | exact verify_Local.mono _ _ _
      | exact LeO.none _
      | refine LeO.ite ?_ ?_
      | refine LeO.bind ?_ (fun _ => ?_)
    · intro y0 y1 y2 y3
      unfold tamislaw06_VerifyFirst.j3
      repeat' first
      | (with_reducible exact ih0 _ _)
      | (with_reducible exact ih1 _ _ _ _ _)
      | (with_reducible exact ih2 _ _ _ _)
      | (with_reducible exact ih3 _ _ _ _)
      | (with_reducible exact tamisref04_Kind.mono _ _)
      | (with_reducible exact tamisref06_Without.mono _ _ _)
      | (with_reducible exact verify_Check.mono _ _)
      | (with_reducible exact verify_Local.mono _ _ _)
      | (with_reducible exact LeO.refl _)
      | (with_reducible exact LeO.none _)
      | (with_reducible refine LeO.ite ?_ ?_)
      | (with_reducible refine LeO.bind ?_ (fun _ => ?_))
      | exact ih0 _ _
      | exact ih1 _ _ _ _ _
      | exact ih2 _ _ _ _
      | exact ih3 _ _ _ _
      | exact tamisref04_Kind.mono _ _
      | exact tamisref06_Without.mono _ _ _
      | exact verify_Check.mono _ _
      | exact verify_Local.mono _ _ _
      | exact LeO.none _
      | refine LeO.ite ?_ ?_
      | refine LeO.bind ?_ (fun _ => ?_)
theorem tamislaw06_VerifyFirst.mono : ∀ a0 k, LeO (tamislaw06_VerifyFirst.f k a0) (tamislaw06_VerifyFirst.f (k + 1) a0) := by
  intro a0 k
  obtain ⟨ih0, ih1, ih2, ih3⟩ := tamislaw06_VerifyFirst.mono_l k
  unfold tamislaw06_VerifyFirst.f
  repeat' first
      | (with_reducible exact ih0 _ _)
      | (with_reducible exact ih1 _ _ _ _ _)
      | (with_reducible exact ih2 _ _ _ _)
      | (with_reducible exact ih3 _ _ _ _)
      | (with_reducible exact tamisref04_Kind.mono _ _)
      | (with_reducible exact tamisref06_Without.mono _ _ _)
      | (with_reducible exact verify_Check.mono _ _)
      | (with_reducible exact verify_Local.mono _ _ _)
      | (with_reducible exact LeO.refl _)
      | (with_reducible exact LeO.none _)
      | (with_reducible refine LeO.ite ?_ ?_)
      | (with_reducible refine LeO.bind ?_ (fun _ => ?_))
      | exact ih0 _ _
      | exact ih1 _ _ _ _ _
      | exact ih2 _ _ _ _
      | exact ih3 _ _ _ _
      | exact tamisref04_Kind.mono _ _
      | exact tamisref06_Without.mono _ _ _
      | exact verify_Check.mono _ _
      | exact verify_Local.mono _ _ _
      | exact LeO.none _
      | refine LeO.ite ?_ ?_
      | refine LeO.bind ?_ (fun _ => ?_)
set_option maxHeartbeats 8000000 in
set_option maxRecDepth 100000 in
theorem tamislaw06_VerifyFirst.calls (k : Nat) (A0 : Option Addr) (c0 : Nat) (l0 : List (S56)) (r : Bool) (w : World) (hr0 : Kd.C k56 w A0 l0.length l0) (hc0 : l0.length ≤ c0) (h : tamislaw06_VerifyFirst.f k l0 = some r) :
    Calls Try.prog 11 #[.slice A0 l0.length c0] w fun e w' => e = .returned (.bool r) ∧ Below w.heap.size w w' := by
  have HR0 := Aside0.mk hr0
  have HC0 := Aside0.mk hc0
  clear hr0 hc0
  have HB := Aside0.mk (Below.refl w.heap.size w)
  have H : ((tamislaw06_awake.f).bind fun t352 => (if t352 = true then (if (l0.length : Int) = 0 then (tamislaw06_VerifyFirst.j0 k l0 true) else (tamislaw06_VerifyFirst.j0 k l0 (decide ((l0.length : Int) > 300)))) else (tamislaw06_VerifyFirst.j0 k l0 true))) = some r := h
  clear h
  have HC2 := Aside0.mk H
  clear H
  go_enter Try.func11, Try.ntmps11
  go_upto_region 1 with (fail)
  go_cut [20] (fun v20 wc => ∃ (kq : Nat) (x20_1 : Bool), v20 = .bool x20_1 ∧ Aside0 (tamislaw06_VerifyFirst.j0 kq l0 x20_1 = some r) ∧ Aside0 (kq ≤ k) ∧ Aside0 (Below w.heap.size w wc))
  case first =>
    have H := HC2.out
    clear HC2
    replace H := Option.bind_eq_some_iff.mp H
    obtain ⟨t352, A30, H⟩ := H
    replace H : (if t352 = true then (if (l0.length : Int) = 0 then (tamislaw06_VerifyFirst.j0 k l0 true) else (tamislaw06_VerifyFirst.j0 k l0 (decide ((l0.length : Int) > 300)))) else (tamislaw06_VerifyFirst.j0 k l0 true)) = some r := H
    have A3 := Aside0.mk A30
    clear A30
    by_cases c4 : t352 = true
    · subst c4
      have H1 : (if (l0.length : Int) = 0 then (tamislaw06_VerifyFirst.j0 k l0 true) else (tamislaw06_VerifyFirst.j0 k l0 (decide ((l0.length : Int) > 300)))) = some r := by rw [if_pos rfl] at H; exact H
      clear H
      have H := H1
      clear H1
      by_cases c5 : (l0.length : Int) = 0
      · rw [if_pos c5] at H
        have c5b0 : ((l0.length : Int) == 0) = true := beq_iff_eq.mpr c5
        have c5b1 : ((l0.length : Int) != 0) = false := bne_eq_false_iff_eq.mpr c5
        clear c5
        (first | rw [c5b0] | (simp only [i64_w, i32_w]; rw [c5b0]) | skip)
        have H' := Aside0.mk H
        clear H
        go_wp2_with (first | ((with_reducible refine gate_callee (f := 37) rfl ?_); refine goesL_ (some 9) rfl rfl Try.func37 (by kernel_rfl) rfl #[] rfl (by (try simp only [List.map_toArray, List.map_cons, List.map_nil]); first | done | rfl | (simp only [List.length_drop, List.length_take]; rfl)) ?_; (with_reducible refine (tamislaw06_awake.calls  true _ A3.out).mono ?_); rintro e w6 ⟨rfl, hb⟩; refine ⟨_, rfl, ?_⟩; have n0_ := Aside0.mk (below_step (by repeat (first | (with_reducible first | exact HB.out | apply below_alloc | apply pw_below_drewN | apply below_drew1) | exact HB.out)) hb); clear HB; have HB := n0_; clear n0_; (try clear hb); (try clear hb2); (try clear hk); (try clear hi)))
        go_meet
        case rel => exact ⟨_, (true), (by first | rfl | (simp; done) | (simp [*]; done)), H', ⟨by first | omega | exact Nat.le_refl _⟩, ⟨by repeat (first | (with_reducible first | exact HB.out | apply below_alloc | apply pw_below_drewN | apply below_drew1) | exact HB.out)⟩⟩
      · rw [if_neg c5] at H
        have c5b0 : ((l0.length : Int) == 0) = false := beq_eq_false_iff_ne.mpr c5
        have c5b1 : ((l0.length : Int) != 0) = true := bne_iff_ne.mpr c5
        have c5b2 : ¬ (l0 = []) := fun h_ => c5 (by rw [h_]; rfl)
        (first | rw [c5b0] | (simp only [i64_w, i32_w]; rw [c5b0]) | skip)
        have H' := Aside0.mk H
        clear H
        go_wp2_with (first | ((with_reducible refine gate_callee (f := 37) rfl ?_); refine goesL_ (some 9) rfl rfl Try.func37 (by kernel_rfl) rfl #[] rfl (by (try simp only [List.map_toArray, List.map_cons, List.map_nil]); first | done | rfl | (simp only [List.length_drop, List.length_take]; rfl)) ?_; (with_reducible refine (tamislaw06_awake.calls  true _ A3.out).mono ?_); rintro e w7 ⟨rfl, hb⟩; refine ⟨_, rfl, ?_⟩; have n0_ := Aside0.mk (below_step (by repeat (first | (with_reducible first | exact HB.out | apply below_alloc | apply pw_below_drewN | apply below_drew1) | exact HB.out)) hb); clear HB; have HB := n0_; clear n0_; (try clear hb); (try clear hb2); (try clear hk); (try clear hi)))
        go_meet
        case rel => exact ⟨_, (decide ((l0.length : Int) > 300)), (by first | rfl | (simp; done) | (simp [*]; done)), H', ⟨by first | omega | exact Nat.le_refl _⟩, ⟨by repeat (first | (with_reducible first | exact HB.out | apply below_alloc | apply pw_below_drewN | apply below_drew1) | exact HB.out)⟩⟩
    · replace c4 := Bool.eq_false_iff.mpr c4
      subst c4
      have H1 : (tamislaw06_VerifyFirst.j0 k l0 true) = some r := by rw [if_neg (show ¬ (false = true) by decide)] at H; exact H
      clear H
      have H := H1
      clear H1
      have H' := Aside0.mk H
      clear H
      go_wp2_with (first | ((with_reducible refine gate_callee (f := 37) rfl ?_); refine goesL_ (some 9) rfl rfl Try.func37 (by kernel_rfl) rfl #[] rfl (by (try simp only [List.map_toArray, List.map_cons, List.map_nil]); first | done | rfl | (simp only [List.length_drop, List.length_take]; rfl)) ?_; (with_reducible refine (tamislaw06_awake.calls  false _ A3.out).mono ?_); rintro e w8 ⟨rfl, hb⟩; refine ⟨_, rfl, ?_⟩; have n0_ := Aside0.mk (below_step (by repeat (first | (with_reducible first | exact HB.out | apply below_alloc | apply pw_below_drewN | apply below_drew1) | exact HB.out)) hb); clear HB; have HB := n0_; clear n0_; (try clear hb); (try clear hb2); (try clear hk); (try clear hi)))
      go_meet
      case rel => exact ⟨_, (true), (by first | rfl | (simp; done) | (simp [*]; done)), H', ⟨by first | omega | exact Nat.le_refl _⟩, ⟨by repeat (first | (with_reducible first | exact HB.out | apply below_alloc | apply pw_below_drewN | apply below_drew1) | exact HB.out)⟩⟩
  case rest =>
    clear HC2
    try clear c1
    try clear p2
    try clear c3
    try clear c4
    try clear c5
    try clear c5b0
    try clear c5b1
    try clear c5b2
    obtain ⟨kq, x20_1, rfl, HA, HJ1, HB⟩ := hcut
    cases kq with
    | zero => exact absurd HA.out (by simp [tamislaw06_VerifyFirst.j0])
    | succ kj1 =>
      have H := HA.out
      clear HA
      simp only [tamislaw06_VerifyFirst.j0] at H
      by_cases c9 : x20_1 = true
      · subst c9
        have H1 : ((tamislaw06_awake.f).bind fun t353 => (some t353)) = some r := by rw [if_pos rfl] at H; exact H
        clear H
        have H := H1
        clear H1
        replace H := Option.bind_eq_some_iff.mp H
        obtain ⟨t353, A100, H⟩ := H
        replace H : (some t353) = some r := H
        have A10 := Aside0.mk A100
        clear A100
        obtain rfl := Option.some.inj H
        go_wp2_with (first | ((with_reducible refine gate_callee (f := 37) rfl ?_); refine goesL_ (some 21) rfl rfl Try.func37 (by kernel_rfl) rfl #[] rfl (by (try simp only [List.map_toArray, List.map_cons, List.map_nil]); first | done | rfl | (simp only [List.length_drop, List.length_take]; rfl)) ?_; (with_reducible refine (tamislaw06_awake.calls  t353 _ A10.out).mono ?_); rintro e w11 ⟨rfl, hb⟩; refine ⟨_, rfl, ?_⟩; have n0_ := Aside0.mk (below_step (by repeat (first | (with_reducible first | exact HB.out | apply below_alloc | apply pw_below_drewN | apply below_drew1) | exact HB.out)) hb); clear HB; have HB := n0_; clear n0_; (try clear hb); (try clear hb2); (try clear hk); (try clear hi)))
        go_ret
        exact ⟨by first | rfl | (simp [errW_none, errW_some] <;> rfl) | (simp [*, errW_none, errW_some] <;> rfl), by repeat (first | (with_reducible first | exact HB.out | apply below_alloc | apply pw_below_drewN | apply below_drew1) | exact HB.out)⟩
      · replace c9 := Bool.eq_false_iff.mpr c9
        subst c9
        have H1 : ((some (([] : List (S56)) : List (S56))).bind fun y354 => (if y354.length + l0.length < 17592186044416 then ((verify_Check.f kj1 (y354 ++ l0)).bind fun bt360 => (tamislaw06_VerifyFirst.l0 kj1 l0 bt360.1 bt360.2 (l0.length : Int) (wrap64 ((l0.length : Int) - 1)))) else (none))) = some r := by rw [if_neg (show ¬ (false = true) by decide)] at H; exact H
        clear H
        have H := H1
        clear H1
        obtain ⟨y354, hy354⟩ : ∃ y_ : List (S56), y_ = (([] : List (S56))) := ⟨_, rfl⟩
        replace H : (if y354.length + l0.length < 17592186044416 then ((verify_Check.f kj1 (y354 ++ l0)).bind fun bt360 => (tamislaw06_VerifyFirst.l0 kj1 l0 bt360.1 bt360.2 (l0.length : Int) (wrap64 ((l0.length : Int) - 1)))) else (none)) = some r := by first | (rw [hy354]; with_reducible exact H) | (have H2_ := (Option.bind_some _ _).symm.trans H; rw [hy354]; with_reducible exact H2_) | (have H2_ := (Option.bind_some _ _).symm.trans H; with_reducible exact H2_) | with_reducible exact H | (rw [hy354]; exact H) | exact H
        have Ny354 := Aside0.mk hy354
        clear hy354
        by_cases c12 : y354.length + l0.length < 17592186044416
        · rw [if_pos c12] at H
          have LMc12 := Aside0.mk c12
          clear c12
          obtain ⟨y357, hy357⟩ : ∃ y_ : List (S56), y_ = (y354 ++ l0) := ⟨_, rfl⟩
          replace H : ((verify_Check.f kj1 y357).bind fun bt360 => (tamislaw06_VerifyFirst.l0 kj1 l0 bt360.1 bt360.2 (l0.length : Int) (wrap64 ((l0.length : Int) - 1)))) = some r := by first | (rw [hy357]; with_reducible exact H) | (have H2_ := (Option.bind_some _ _).symm.trans H; rw [hy357]; with_reducible exact H2_) | (have H2_ := (Option.bind_some _ _).symm.trans H; with_reducible exact H2_) | with_reducible exact H | (rw [hy357]; exact H) | exact H
          have Ny357 := Aside0.mk hy357
          clear hy357
          replace H := Option.bind_eq_some_iff.mp H
          obtain ⟨⟨t360, t361⟩, A130, H⟩ := H
          replace H : (tamislaw06_VerifyFirst.l0 kj1 l0 t360 t361 (l0.length : Int) (wrap64 ((l0.length : Int) - 1))) = some r := H
          have A13 := Aside0.mk A130
          clear A130
          have H' := Aside0.mk H
          clear H
          go_wp2_with (first | ((with_reducible refine gate_dst (N := 23) rfl ?_); (try (refine gate_guard (by rfl) ?_; dsimp only)); refine Kd.R_lit k56 _ 56 ?hg (N := 23) ?hd (xs := ([] : List (S56))) (inner := []) (ok := fun _ => True) (okp := fun _ => True) ?hr ?hp (fun _ hk => hk) trivial (Below.refl _ _) (Nat.le_refl _) (by simp) ?_; (case hd => rfl); (case hg => rfl); (case hr => first | (go_simp; done) | (go_simp; rfl)); (case hp => exact (Reps.none _ _)); intro v355 w14 ho15 hb hg_ hnew_; clear hg_ hnew_; (first | rw [← Ny354.out] at ho15 | (simp only [Int.reduceToNat] at ho15; rw [← Ny354.out] at ho15)); have n0_ := Aside0.mk (Kd.R_lower ho15 (below_size (by repeat (first | (with_reducible first | exact HB.out | apply below_alloc | apply pw_below_drewN | apply below_drew1) | exact HB.out)))); have n1_ := Aside0.mk (below_step (by repeat (first | (with_reducible first | exact HB.out | apply below_alloc | apply pw_below_drewN | apply below_drew1) | exact HB.out)) hb); clear HB; have HO356 := n0_; have HB := n1_; clear n0_ n1_; clear hb ho15) | ((with_reducible refine gate_builtin (b := .append) (xs := #[.tmp 23, .tmp 24]) rfl ?_); (try (refine gate_guard (by rfl) ?_; dsimp only)); at_builtin; refine Kd.R_append_rows k56 (w0 := w) w.heap.size rfl (.tmp 23) (.tmp 24) 45 56 (.agg #[(.int .u16 0), (.int .u8 0), (.int .u8 0), (.int .u32 0)]) 8 rfl Try.underlying45 info56 rfl (by decide) (by omega) v355 y354 l0 _ _ _ (fun _ => True) (fun _ => False) rfl rfl ?aO ?aR (fun _ _ h => h) (fun _ h => h.elim) ?aF ?aB ?aS ?aL ?_; (case aR => repeat (first | exact (Kd.C_below HR0.out HB.out) | (with_reducible refine Kd.C_alloc ?_ _) | (with_reducible refine Kd.C_drewN ?_ _) | (with_reducible refine Kd.C_drew ?_))); (case aB => exact (by repeat (first | (with_reducible first | exact HB.out | apply below_alloc | apply pw_below_drewN | apply below_drew1) | exact HB.out))); (case aF => exact (fun _ _ => trivial)); (case aO => exact (by (with_reducible repeat (first | apply Kd.R_alloc | apply Kd.R_drewN | apply Kd.R_drew)); exact HO356.out)); (case aS => exact (below_size (by repeat (first | (with_reducible first | exact HB.out | apply below_alloc | apply pw_below_drewN | apply below_drew1) | exact HB.out)))); (case aL => have := LMc12.out; omega); intro v358 w16 ho hb hg hat; rw [← Ny357.out] at ho; have n0_ := Aside0.mk (hb); have n1_ := Aside0.mk (ho); clear HB; clear HO356; have HB := n0_; have HO359 := n1_; clear n0_ n1_; clear ho hb hg hat; obtain ⟨Ao17, co17, eo17⟩ := Kd.R_slice HO359.out; subst eo17) | ((with_reducible refine gate_callee (f := 38) rfl ?_); refine goesL_ (some 26) rfl rfl Try.func38 (by kernel_rfl) rfl #[.slice Ao17 y357.length co17] rfl (by (try simp only [List.map_toArray, List.map_cons, List.map_nil]); first | done | rfl | (simp only [List.length_drop, List.length_take]; rfl)) ?_; (with_reducible refine (verify_Check.calls kj1 _ _ y357 t360 t361 _ ?side1 ?side2 A13.out).mono ?_); (case side1 => repeat (first | exact (Kd.R_reads' HO359.out).2.2 | (with_reducible refine Kd.C_alloc ?_ _) | (with_reducible refine Kd.C_drewN ?_ _) | (with_reducible refine Kd.C_drew ?_))); (case side2 => exact (Kd.R_reads' HO359.out).2.1); rintro e w18 ⟨rfl, hb⟩; refine ⟨_, rfl, ?_⟩; have n0_ := Aside0.mk (Kd.R_below (by (with_reducible repeat (first | apply Kd.R_alloc | apply Kd.R_drewN | apply Kd.R_drew)); exact HO359.out) hb); have n1_ := Aside0.mk (below_step (by repeat (first | (with_reducible first | exact HB.out | apply below_alloc | apply pw_below_drewN | apply below_drew1) | exact HB.out)) hb); clear HO359; clear HB; have HO359 := n0_; have HB := n1_; clear n0_ n1_; (try clear hb); (try clear hb2); (try clear hk); (try clear hi)))
          go_loopg [5, 6] kj1 (fun kq v5 v6 w' => ∃ (x5_2 : Int) (x6_2 : Int), v5 = .int .i64 x5_2 ∧ v6 = .int .i64 x6_2 ∧ Aside0 (tamislaw06_VerifyFirst.l0 kq l0 t360 t361 x5_2 x6_2 = some r) ∧ Aside0 (kq ≤ kj1) ∧ Aside0 (Below w.heap.size w w'))
          case atStart => exact ⟨((l0.length : Int)), (wrap64 ((l0.length : Int) - 1)), (by first | rfl | (simp; done) | (simp [*]; done)), (by first | rfl | (simp; done) | (simp [*]; done)), H', ⟨Nat.le_refl _⟩, ⟨by repeat (first | (with_reducible first | exact HB.out | apply below_alloc | apply pw_below_drewN | apply below_drew1) | exact HB.out)⟩⟩
          case round =>
            clear H'
            try clear c1
            try clear p2
            try clear c3
            try clear c4
            try clear c5
            try clear c5b0
            try clear c5b1
            try clear c5b2
            try clear p6
            try clear c9
            try clear c11
            try clear c12
            try clear p2
            obtain ⟨x5_2, x6_2, rfl, rfl, HA, HK2, HB⟩ := hrel
            cases gk with
            | zero => exact absurd HA.out (by simp [tamislaw06_VerifyFirst.l0])
            | succ k2 =>
              have H := HA.out
              clear HA
              simp only [tamislaw06_VerifyFirst.l0] at H
              by_cases c19 : x6_2 ≥ 0
              · rw [if_pos c19] at H
                have c19b0 : decide (0 ≤ x6_2) = true := decide_eq_true c19
                clear c19
                replace H := Option.bind_eq_some_iff.mp H
                obtain ⟨t362, A200, H⟩ := H
                replace H : (if t362 = 0 then (tamislaw06_VerifyFirst.l0 k2 l0 t360 t361 x5_2 (wrap64 (x6_2 - 1))) else (tamislaw06_VerifyFirst.l0 k2 l0 t360 t361 x6_2 (wrap64 (x6_2 - 1)))) = some r := H
                have A20 := Aside0.mk A200
                clear A200
                by_cases c21 : t362 = 0
                · rw [if_pos c21] at H
                  have c21b0 : (t362 == 0) = true := beq_iff_eq.mpr c21
                  have c21b1 : (t362 != 0) = false := bne_eq_false_iff_eq.mpr c21
                  clear c21
                  have H' := Aside0.mk H
                  clear H
                  go_wp2_with (first | ((with_reducible refine gate_callee (f := 41) rfl ?_); refine goesL_ (some 40) rfl rfl Try.func41 (by kernel_rfl) rfl #[.slice A0 l0.length c0, .int .i64 x6_2] rfl (by (try simp only [List.map_toArray, List.map_cons, List.map_nil]); first | done | rfl | (simp only [List.length_drop, List.length_take]; rfl)) ?_; (with_reducible refine (verify_Local.calls k2 _ _ l0 x6_2 t362 _ ?side1 ?side2 A20.out).mono ?_); (case side1 => repeat (first | exact (Kd.C_below HR0.out HB.out) | (with_reducible refine Kd.C_alloc ?_ _) | (with_reducible refine Kd.C_drewN ?_ _) | (with_reducible refine Kd.C_drew ?_))); (case side2 => exact HC0.out); rintro e w22 ⟨rfl, hb⟩; refine ⟨_, rfl, ?_⟩; have n0_ := Aside0.mk (below_step (by repeat (first | (with_reducible first | exact HB.out | apply below_alloc | apply pw_below_drewN | apply below_drew1) | exact HB.out)) hb); clear HB; have HB := n0_; clear n0_; (try clear hb); (try clear hb2); (try clear hk); (try clear hi)))
                  go_roundg k2
                  case measure => have := HJ1.out; have := HK2.out; omega
                  case rel => exact ⟨(x5_2), (wrap64 (x6_2 - 1)), (by first | rfl | (simp; done) | (simp [*]; done)), (by first | rfl | (simp; done) | (simp [*]; done)), H', ⟨by have := HJ1.out; have := HK2.out; omega⟩, ⟨by repeat (first | (with_reducible first | exact HB.out | apply below_alloc | apply pw_below_drewN | apply below_drew1) | exact HB.out)⟩⟩
                · rw [if_neg c21] at H
                  have c21b0 : (t362 == 0) = false := beq_eq_false_iff_ne.mpr c21
                  have c21b1 : (t362 != 0) = true := bne_iff_ne.mpr c21
                  have H' := Aside0.mk H
                  clear H
                  go_wp2_with (first | ((with_reducible refine gate_callee (f := 41) rfl ?_); refine goesL_ (some 40) rfl rfl Try.func41 (by kernel_rfl) rfl #[.slice A0 l0.length c0, .int .i64 x6_2] rfl (by (try simp only [List.map_toArray, List.map_cons, List.map_nil]); first | done | rfl | (simp only [List.length_drop, List.length_take]; rfl)) ?_; (with_reducible refine (verify_Local.calls k2 _ _ l0 x6_2 t362 _ ?side1 ?side2 A20.out).mono ?_); (case side1 => repeat (first | exact (Kd.C_below HR0.out HB.out) | (with_reducible refine Kd.C_alloc ?_ _) | (with_reducible refine Kd.C_drewN ?_ _) | (with_reducible refine Kd.C_drew ?_))); (case side2 => exact HC0.out); rintro e w23 ⟨rfl, hb⟩; refine ⟨_, rfl, ?_⟩; have n0_ := Aside0.mk (below_step (by repeat (first | (with_reducible first | exact HB.out | apply below_alloc | apply pw_below_drewN | apply below_drew1) | exact HB.out)) hb); clear HB; have HB := n0_; clear n0_; (try clear hb); (try clear hb2); (try clear hk); (try clear hi)))
                  go_roundg k2
                  case measure => have := HJ1.out; have := HK2.out; omega
                  case rel => exact ⟨(x6_2), (wrap64 (x6_2 - 1)), (by first | rfl | (simp; done) | (simp [*]; done)), (by first | rfl | (simp; done) | (simp [*]; done)), H', ⟨by have := HJ1.out; have := HK2.out; omega⟩, ⟨by repeat (first | (with_reducible first | exact HB.out | apply below_alloc | apply pw_below_drewN | apply below_drew1) | exact HB.out)⟩⟩
              · rw [if_neg c19] at H
                have c19b0 : decide (0 ≤ x6_2) = false := decide_eq_false c19
                clear c19
                by_cases c24 : x5_2 < (l0.length : Int)
                · rw [if_pos c24] at H
                  have c24b0 : decide (x5_2 < (l0.length : Int)) = true := decide_eq_true c24
                  clear c24
                  by_cases c25 : t360 = x5_2
                  · rw [if_pos c25] at H
                    have c25b0 : (t360 == x5_2) = true := beq_iff_eq.mpr c25
                    have c25b1 : (t360 != x5_2) = false := bne_eq_false_iff_eq.mpr c25
                    clear c25
                    replace H := Option.bind_eq_some_iff.mp H
                    obtain ⟨t363, A260, H⟩ := H
                    replace H : (some (t361 == t363)) = some r := H
                    have A26 := Aside0.mk A260
                    clear A260
                    obtain rfl := Option.some.inj H
                    go_wp2_with (first | (go_at_call 41; (with_reducible refine (verify_Local.calls k2 _ _ l0 x5_2 t363 _ ?side1 ?side2 A26.out).mono ?_); (case side1 => repeat (first | exact (Kd.C_below HR0.out HB.out) | (with_reducible refine Kd.C_alloc ?_ _) | (with_reducible refine Kd.C_drewN ?_ _) | (with_reducible refine Kd.C_drew ?_))); (case side2 => exact HC0.out); rintro e w27 ⟨rfl, hb⟩; have n0_ := Aside0.mk (below_step (by repeat (first | (with_reducible first | exact HB.out | apply below_alloc | apply pw_below_drewN | apply below_drew1) | exact HB.out)) hb); clear HB; have HB := n0_; clear n0_; (try clear hb); (try clear hb2); (try clear hk); (try clear hi)))
                    go_ret
                    exact ⟨by first | rfl | (simp [errW_none, errW_some] <;> rfl) | (simp [*, errW_none, errW_some] <;> rfl), by repeat (first | (with_reducible first | exact HB.out | apply below_alloc | apply pw_below_drewN | apply below_drew1) | exact HB.out)⟩
                  · rw [if_neg c25] at H
                    have c25b0 : (t360 == x5_2) = false := beq_eq_false_iff_ne.mpr c25
                    have c25b1 : (t360 != x5_2) = true := bne_iff_ne.mpr c25
                    obtain rfl := Option.some.inj H
                    go_wp2
                    go_ret
                    exact ⟨by first | rfl | (simp [errW_none, errW_some] <;> rfl) | (simp [*, errW_none, errW_some] <;> rfl), by repeat (first | (with_reducible first | exact HB.out | apply below_alloc | apply pw_below_drewN | apply below_drew1) | exact HB.out)⟩
                · rw [if_neg c24] at H
                  have c24b0 : decide (x5_2 < (l0.length : Int)) = false := decide_eq_false c24
                  clear c24
                  obtain ⟨ji28, hji28⟩ : ∃ j_ : Int, (wrap64 ((l0.length : Int) - 1)) = j_ := ⟨_, rfl⟩
                  replace H : (if 0 ≤ (ji28) then (if (ji28) < (l0.length : Int) then ((tamisref04_Kind.f k2 ((rd_T56 l0 (ji28)).f0)).bind fun t365 => (if t365 = 13 then (tamislaw06_VerifyFirst.j2 k2 l0 t360 t361 false) else (tamislaw06_VerifyFirst.j2 k2 l0 t360 t361 (t365 != 14)))) else (none)) else (none)) = some r := by first | (rw [hji28] at H; exact H) | (simp only [hji28] at H ⊢; exact H)
                  have hji28w : (IntKind.i64.wrap ((l0.length : Int) - 1)) = ji28 := (i64_w _).trans hji28
                  by_cases c29 : 0 ≤ (ji28)
                  · rw [if_pos c29] at H
                    have c29b0 : decide (0 ≤ (ji28)) = true := decide_eq_true c29
                    clear c29
                    by_cases c30 : (ji28) < (l0.length : Int)
                    · rw [if_pos c30] at H
                      have c30b0 : decide ((ji28) < (l0.length : Int)) = true := decide_eq_true c30
                      clear c30
                      replace H := Option.bind_eq_some_iff.mp H
                      obtain ⟨t365, A310, H⟩ := H
                      replace H : (if t365 = 13 then (tamislaw06_VerifyFirst.j2 k2 l0 t360 t361 false) else (tamislaw06_VerifyFirst.j2 k2 l0 t360 t361 (t365 != 14))) = some r := H
                      have A31 := Aside0.mk A310
                      clear A310
                      have HC32 := Aside0.mk H
                      clear H
                      have p364 : 0 ≤ ((ji28) : Int) := of_decide_eq_true (by first | (with_reducible assumption) | assumption)
                      have q364 : (ji28) < (l0.length : Int) := of_decide_eq_true (by first | (with_reducible assumption) | assumption)
                      obtain ⟨ad364, e364, hx364_0, hx364_1, hx364_2, hx364_3⟩ := at_T56 HR0.out (ji28) p364 q364
                      cases e364
                      replace hx364_0 := (HB.out.cell (World.block_lt_of_cell? w _ hx364_0)).trans hx364_0
                      replace hx364_1 := (HB.out.cell (World.block_lt_of_cell? w _ hx364_1)).trans hx364_1
                      replace hx364_2 := (HB.out.cell (World.block_lt_of_cell? w _ hx364_2)).trans hx364_2
                      replace hx364_3 := (HB.out.cell (World.block_lt_of_cell? w _ hx364_3)).trans hx364_3
                      replace p364 := eq_true p364
                      replace q364 := eq_true q364
                      go_upto_region 13 with (first | ((with_reducible refine gate_callee (f := 45) rfl ?_); refine goesL_ (some 64) rfl rfl Try.func45 (by kernel_rfl) rfl #[.int .u16 ((rd_T56 l0 (ji28)).f0)] rfl (by (try simp only [List.map_toArray, List.map_cons, List.map_nil]); first | done | (simp only [hji28]; rfl) | rfl | (simp only [List.length_drop, List.length_take]; rfl)) ?_; (with_reducible refine (tamisref04_Kind.calls k2 ((rd_T56 l0 (ji28)).f0) t365 _ A31.out).mono ?_); rintro e w33 ⟨rfl, hb⟩; refine ⟨_, rfl, ?_⟩; have n0_ := Aside0.mk (below_step (by repeat (first | (with_reducible first | exact HB.out | apply below_alloc | apply pw_below_drewN | apply below_drew1) | exact HB.out)) hb); clear HB; have HB := n0_; clear n0_; (try clear hb); (try clear hb2); (try clear hk); (try clear hi)))
                      (try simp only [Act.put, List.setIfInBounds_toArray, List.set_cons_zero, List.set_cons_succ])
                      go_cut [70] (fun v70 wc => ∃ (kq : Nat) (x70_31 : Bool), v70 = .bool x70_31 ∧ Aside0 (tamislaw06_VerifyFirst.j2 kq l0 t360 t361 x70_31 = some r) ∧ Aside0 (kq ≤ k2) ∧ Aside0 (Below w.heap.size w wc))
                      case first =>
                        have H := HC32.out
                        clear HC32
                        by_cases c34 : t365 = 13
                        · rw [if_pos c34] at H
                          have c34b0 : (t365 == 13) = true := beq_iff_eq.mpr c34
                          have c34b1 : (t365 != 13) = false := bne_eq_false_iff_eq.mpr c34
                          clear c34
                          (first | rw [c34b0] | (simp only [i64_w, i32_w]; rw [c34b0]) | skip)
                          have H' := Aside0.mk H
                          clear H
                          go_wp2
                          go_meet
                          case rel => exact ⟨_, (false), (by first | rfl | (simp; done) | (simp [*]; done)), H', ⟨by have := HJ1.out; have := HK2.out; first | omega | exact Nat.le_refl _⟩, ⟨by repeat (first | (with_reducible first | exact HB.out | apply below_alloc | apply pw_below_drewN | apply below_drew1) | exact HB.out)⟩⟩
                        · rw [if_neg c34] at H
                          have c34b0 : (t365 == 13) = false := beq_eq_false_iff_ne.mpr c34
                          have c34b1 : (t365 != 13) = true := bne_iff_ne.mpr c34
                          (first | rw [c34b0] | (simp only [i64_w, i32_w]; rw [c34b0]) | skip)
                          have H' := Aside0.mk H
                          clear H
                          go_wp2
                          go_meet
                          case rel => exact ⟨_, ((t365 != 14)), (by first | rfl | (simp; done) | (simp [*]; done)), H', ⟨by have := HJ1.out; have := HK2.out; first | omega | exact Nat.le_refl _⟩, ⟨by repeat (first | (with_reducible first | exact HB.out | apply below_alloc | apply pw_below_drewN | apply below_drew1) | exact HB.out)⟩⟩
                      case rest =>
                        clear HC32
                        try clear c1
                        try clear c2
                        try clear p2
                        try clear c3
                        try clear p3
                        try clear q3
                        try clear hx3
                        try clear c4
                        try clear c5
                        try clear c5b0
                        try clear c5b1
                        try clear c5b2
                        try clear p6
                        try clear c9
                        try clear c11
                        try clear c12
                        try clear c19
                        try clear c19b0
                        try clear c21
                        try clear c21b0
                        try clear c21b1
                        try clear c24
                        try clear c24b0
                        try clear c25
                        try clear c25b0
                        try clear c25b1
                        try clear c29
                        try clear c29b0
                        try clear c30
                        try clear c30b0
                        try clear c34
                        try clear c34b0
                        try clear c34b1
                        try clear hx364_0
                        try clear hx364_1
                        try clear hx364_2
                        try clear hx364_3
                        try clear p2
                        try clear p364
                        try clear p6
                        try clear q364
                        obtain ⟨kq, x70_31, rfl, HA, HJ31, HB⟩ := hcut
                        cases kq with
                        | zero => exact absurd HA.out (by simp [tamislaw06_VerifyFirst.j2])
                        | succ kj31 =>
                          have H := HA.out
                          clear HA
                          simp only [tamislaw06_VerifyFirst.j2] at H
                          by_cases c35 : x70_31 = true
                          · subst c35
                            have H1 : (if t360 = (wrap64 ((l0.length : Int) - 1)) then (some (t361 == 12)) else (some false)) = some r := by rw [if_pos rfl] at H; exact H
                            clear H
                            have H := H1
                            clear H1
                            by_cases c36 : t360 = (wrap64 ((l0.length : Int) - 1))
                            · rw [if_pos c36] at H
                              have c36b0 : (t360 == (wrap64 ((l0.length : Int) - 1))) = true := beq_iff_eq.mpr c36
                              have c36b9 : (t360 == ji28) = true := by rw [← hji28]; exact c36b0
                              have c36b1 : (t360 != (wrap64 ((l0.length : Int) - 1))) = false := bne_eq_false_iff_eq.mpr c36
                              clear c36
                              obtain rfl := Option.some.inj H
                              go_wp2
                              go_ret
                              exact ⟨by first | rfl | (simp [errW_none, errW_some] <;> rfl) | (simp only [← hji28]; first | rfl | (simp [errW_none, errW_some] <;> rfl)) | (simp [*, errW_none, errW_some] <;> rfl), by repeat (first | (with_reducible first | exact HB.out | apply below_alloc | apply pw_below_drewN | apply below_drew1) | exact HB.out)⟩
                            · rw [if_neg c36] at H
                              have c36b0 : (t360 == (wrap64 ((l0.length : Int) - 1))) = false := beq_eq_false_iff_ne.mpr c36
                              have c36b1 : (t360 != (wrap64 ((l0.length : Int) - 1))) = true := bne_iff_ne.mpr c36
                              obtain rfl := Option.some.inj H
                              go_wp2
                              go_ret
                              exact ⟨by first | rfl | (simp [errW_none, errW_some] <;> rfl) | (simp only [← hji28]; first | rfl | (simp [errW_none, errW_some] <;> rfl)) | (simp [*, errW_none, errW_some] <;> rfl), by repeat (first | (with_reducible first | exact HB.out | apply below_alloc | apply pw_below_drewN | apply below_drew1) | exact HB.out)⟩
                          · replace c35 := Bool.eq_false_iff.mpr c35
                            subst c35
                            have H1 : (if t361 = 0 then (some (t360 == 0)) else (if t360 < 0 then (tamislaw06_VerifyFirst.j3 kj31 l0 t360 t361 true) else (tamislaw06_VerifyFirst.j3 kj31 l0 t360 t361 (decide (t360 ≥ (l0.length : Int)))))) = some r := by rw [if_neg (show ¬ (false = true) by decide)] at H; exact H
                            clear H
                            have H := H1
                            clear H1
                            by_cases c37 : t361 = 0
                            · rw [if_pos c37] at H
                              have c37b0 : (t361 == 0) = true := beq_iff_eq.mpr c37
                              have c37b1 : (t361 != 0) = false := bne_eq_false_iff_eq.mpr c37
                              clear c37
                              obtain rfl := Option.some.inj H
                              go_wp2
                              go_ret
                              exact ⟨by first | rfl | (simp [errW_none, errW_some] <;> rfl) | (simp only [← hji28]; first | rfl | (simp [errW_none, errW_some] <;> rfl)) | (simp [*, errW_none, errW_some] <;> rfl), by repeat (first | (with_reducible first | exact HB.out | apply below_alloc | apply pw_below_drewN | apply below_drew1) | exact HB.out)⟩
                            · rw [if_neg c37] at H
                              have c37b0 : (t361 == 0) = false := beq_eq_false_iff_ne.mpr c37
                              have c37b1 : (t361 != 0) = true := bne_iff_ne.mpr c37
                              have HC38 := Aside0.mk H
                              clear H
                              go_upto_region 17 with (fail)
                              go_cut [91] (fun v91 wc => ∃ (kq : Nat) (x91_37 : Bool), v91 = .bool x91_37 ∧ Aside0 (tamislaw06_VerifyFirst.j3 kq l0 t360 t361 x91_37 = some r) ∧ Aside0 (kq ≤ kj31) ∧ Aside0 (Below w.heap.size w wc))
                              case first =>
                                have H := HC38.out
                                clear HC38
                                by_cases c39 : t360 < 0
                                · rw [if_pos c39] at H
                                  have c39b0 : decide (t360 < 0) = true := decide_eq_true c39
                                  clear c39
                                  (first | rw [c39b0] | (simp only [i64_w, i32_w]; rw [c39b0]) | skip)
                                  have H' := Aside0.mk H
                                  clear H
                                  go_wp2
                                  go_meet
                                  case rel => exact ⟨_, (true), (by first | rfl | (simp; done) | (simp [*]; done)), H', ⟨by have := HJ1.out; have := HK2.out; have := HJ31.out; first | omega | exact Nat.le_refl _⟩, ⟨by repeat (first | (with_reducible first | exact HB.out | apply below_alloc | apply pw_below_drewN | apply below_drew1) | exact HB.out)⟩⟩
                                · rw [if_neg c39] at H
                                  have c39b0 : decide (t360 < 0) = false := decide_eq_false c39
                                  clear c39
                                  (first | rw [c39b0] | (simp only [i64_w, i32_w]; rw [c39b0]) | skip)
                                  have H' := Aside0.mk H
                                  clear H
                                  go_wp2
                                  go_meet
                                  case rel => exact ⟨_, (decide (t360 ≥ (l0.length : Int))), (by first | rfl | (simp; done) | (simp [*]; done)), H', ⟨by have := HJ1.out; have := HK2.out; have := HJ31.out; first | omega | exact Nat.le_refl _⟩, ⟨by repeat (first | (with_reducible first | exact HB.out | apply below_alloc | apply pw_below_drewN | apply below_drew1) | exact HB.out)⟩⟩
                              case rest =>
                                clear HC38
                                try clear c1
                                try clear c2
                                try clear p2
                                try clear c3
                                try clear p3
                                try clear q3
                                try clear hx3
                                try clear c4
                                try clear c5
                                try clear c5b0
                                try clear c5b1
                                try clear c5b2
                                try clear p6
                                try clear c9
                                try clear c11
                                try clear c12
                                try clear c19
                                try clear c19b0
                                try clear c21
                                try clear c21b0
                                try clear c21b1
                                try clear c24
                                try clear c24b0
                                try clear c25
                                try clear c25b0
                                try clear c25b1
                                try clear c29
                                try clear c29b0
                                try clear c30
                                try clear c30b0
                                try clear c34
                                try clear c34b0
                                try clear c34b1
                                try clear c35
                                try clear c36
                                try clear c36b0
                                try clear c36b1
                                try clear p36
                                try clear q36
                                try clear hx36
                                try clear c37
                                try clear c37b0
                                try clear c37b1
                                try clear c38
                                try clear c39
                                try clear c39b0
                                try clear hx364_0
                                try clear hx364_1
                                try clear hx364_2
                                try clear hx364_3
                                try clear p2
                                try clear p3
                                try clear p364
                                try clear p6
                                try clear q3
                                try clear q364
                                obtain ⟨kq, x91_37, rfl, HA, HJ37, HB⟩ := hcut
                                cases kq with
                                | zero => exact absurd HA.out (by simp [tamislaw06_VerifyFirst.j3])
                                | succ kj37 =>
                                  have H := HA.out
                                  clear HA
                                  simp only [tamislaw06_VerifyFirst.j3] at H
                                  by_cases c40 : x91_37 = true
                                  · subst c40
                                    have H1 : (some false) = some r := by rw [if_pos rfl] at H; exact H
                                    clear H
                                    have H := H1
                                    clear H1
                                    obtain rfl := Option.some.inj H
                                    go_wp2
                                    go_ret
                                    exact ⟨by first | rfl | (simp [errW_none, errW_some] <;> rfl) | (simp only [← hji28]; first | rfl | (simp [errW_none, errW_some] <;> rfl)) | (simp [*, errW_none, errW_some] <;> rfl), by repeat (first | (with_reducible first | exact HB.out | apply below_alloc | apply pw_below_drewN | apply below_drew1) | exact HB.out)⟩
                                  · replace c40 := Bool.eq_false_iff.mpr c40
                                    subst c40
                                    have H1 : (if 0 ≤ t360 then (if t360 < (l0.length : Int) then ((tamisref04_Kind.f kj37 ((rd_T56 l0 t360).f0)).bind fun t367 => (if t361 = 10 then (if t367 = 4 then ((tamisref06_Without.f kj37 l0 (wrap64 ((rd_T56 l0 t360).f3))).bind fun t369 => (if t360 < (t369.length : Int) then (some (rdOf false t369 t360)) else (none))) else (if t367 = 6 then ((tamisref06_Without.f kj37 l0 (wrap64 ((rd_T56 l0 t360).f3))).bind fun t374 => (if t360 < (t374.length : Int) then (some (rdOf false t374 t360)) else (none))) else (some false))) else (some false))) else (none)) else (none)) = some r := by rw [if_neg (show ¬ (false = true) by decide)] at H; exact H
                                    clear H
                                    have H := H1
                                    clear H1
                                    by_cases c41 : 0 ≤ t360
                                    · rw [if_pos c41] at H
                                      have c41b0 : decide (0 ≤ t360) = true := decide_eq_true c41
                                      clear c41
                                      by_cases c42 : t360 < (l0.length : Int)
                                      · rw [if_pos c42] at H
                                        have c42b0 : decide (t360 < (l0.length : Int)) = true := decide_eq_true c42
                                        clear c42
                                        replace H := Option.bind_eq_some_iff.mp H
                                        obtain ⟨t367, A430, H⟩ := H
                                        replace H : (if t361 = 10 then (if t367 = 4 then ((tamisref06_Without.f kj37 l0 (wrap64 ((rd_T56 l0 t360).f3))).bind fun t369 => (if t360 < (t369.length : Int) then (some (rdOf false t369 t360)) else (none))) else (if t367 = 6 then ((tamisref06_Without.f kj37 l0 (wrap64 ((rd_T56 l0 t360).f3))).bind fun t374 => (if t360 < (t374.length : Int) then (some (rdOf false t374 t360)) else (none))) else (some false))) else (some false)) = some r := H
                                        have A43 := Aside0.mk A430
                                        clear A430
                                        by_cases c44 : t361 = 10
                                        · rw [if_pos c44] at H
                                          have c44b0 : (t361 == 10) = true := beq_iff_eq.mpr c44
                                          have c44b1 : (t361 != 10) = false := bne_eq_false_iff_eq.mpr c44
                                          clear c44
                                          by_cases c45 : t367 = 4
                                          · rw [if_pos c45] at H
                                            have c45b0 : (t367 == 4) = true := beq_iff_eq.mpr c45
                                            have c45b1 : (t367 != 4) = false := bne_eq_false_iff_eq.mpr c45
                                            clear c45
                                            replace H := Option.bind_eq_some_iff.mp H
                                            obtain ⟨t369, A460, H⟩ := H
                                            replace H : (if t360 < (t369.length : Int) then (some (rdOf false t369 t360)) else (none)) = some r := H
                                            have A46 := Aside0.mk A460
                                            clear A460
                                            by_cases c47 : t360 < (t369.length : Int)
                                            · rw [if_pos c47] at H
                                              have c47b0 : decide (t360 < (t369.length : Int)) = true := decide_eq_true c47
                                              clear c47
                                              obtain rfl := Option.some.inj H
                                              have p366 : 0 ≤ (t360 : Int) := of_decide_eq_true (by first | (with_reducible assumption) | assumption)
                                              have q366 : t360 < (l0.length : Int) := of_decide_eq_true (by first | (with_reducible assumption) | assumption)
                                              obtain ⟨ad366, e366, hx366_0, hx366_1, hx366_2, hx366_3⟩ := at_T56 HR0.out t360 p366 q366
                                              obtain rfl : ad364 = ad366 := (by injection e366)
                                              replace hx366_0 := (HB.out.cell (World.block_lt_of_cell? w _ hx366_0)).trans hx366_0
                                              replace hx366_1 := (HB.out.cell (World.block_lt_of_cell? w _ hx366_1)).trans hx366_1
                                              replace hx366_2 := (HB.out.cell (World.block_lt_of_cell? w _ hx366_2)).trans hx366_2
                                              replace hx366_3 := (HB.out.cell (World.block_lt_of_cell? w _ hx366_3)).trans hx366_3
                                              replace p366 := eq_true p366
                                              replace q366 := eq_true q366
                                              go_wp2_with (first | ((with_reducible refine gate_callee (f := 45) rfl ?_); refine goesL_ (some 97) rfl rfl Try.func45 (by kernel_rfl) rfl #[.int .u16 ((rd_T56 l0 t360).f0)] rfl (by (try simp only [List.map_toArray, List.map_cons, List.map_nil]); first | done | rfl | (simp only [List.length_drop, List.length_take]; rfl)) ?_; (with_reducible refine (tamisref04_Kind.calls kj37 ((rd_T56 l0 t360).f0) t367 _ A43.out).mono ?_); rintro e w48 ⟨rfl, hb⟩; refine ⟨_, rfl, ?_⟩; have n0_ := Aside0.mk (below_step (by repeat (first | (with_reducible first | exact HB.out | apply below_alloc | apply pw_below_drewN | apply below_drew1) | exact HB.out)) hb); clear HB; have HB := n0_; clear n0_; (try clear hb); (try clear hb2); (try clear hk); (try clear hi); have p368 : 0 ≤ (t360 : Int) := of_decide_eq_true (by first | (with_reducible assumption) | assumption); have q368 : t360 < (l0.length : Int) := of_decide_eq_true (by first | (with_reducible assumption) | assumption); obtain ⟨ad368, e368, hx368_0, hx368_1, hx368_2, hx368_3⟩ := at_T56 HR0.out t360 p368 q368; obtain rfl : ad364 = ad368 := (by injection e368); replace hx368_0 := (HB.out.cell (World.block_lt_of_cell? w _ hx368_0)).trans hx368_0; replace hx368_1 := (HB.out.cell (World.block_lt_of_cell? w _ hx368_1)).trans hx368_1; replace hx368_2 := (HB.out.cell (World.block_lt_of_cell? w _ hx368_2)).trans hx368_2; replace hx368_3 := (HB.out.cell (World.block_lt_of_cell? w _ hx368_3)).trans hx368_3; replace p368 := eq_true p368; replace q368 := eq_true q368) | (go_at_call 48; (with_reducible refine (tamisref06_Without.calls kj37 _ _ l0 (wrap64 ((rd_T56 l0 t360).f3)) t369 _ ?side1 ?side2 A46.out).mono ?_); (case side1 => repeat (first | exact (Kd.C_below HR0.out HB.out) | (with_reducible refine Kd.C_alloc ?_ _) | (with_reducible refine Kd.C_drewN ?_ _) | (with_reducible refine Kd.C_drew ?_))); (case side2 => exact HC0.out); rintro e w49 ⟨v370, rfl, ho0, hb⟩; have n0_ := Aside0.mk (Kd.R_lower ho0 (below_size (by repeat (first | (with_reducible first | exact HB.out | apply below_alloc | apply pw_below_drewN | apply below_drew1) | exact HB.out)))); have n1_ := Aside0.mk (below_step (by repeat (first | (with_reducible first | exact HB.out | apply below_alloc | apply pw_below_drewN | apply below_drew1) | exact HB.out)) hb); clear HB; have HO371 := n0_; have HB := n1_; clear n0_ n1_; (try clear hb); (try clear hb2); (try clear hk); (try clear hi); (try clear ho0); obtain ⟨Ao50, co50, eo50⟩ := Kd.R_slice HO371.out; subst eo50; have p372 : 0 ≤ (t360 : Int) := of_decide_eq_true (by first | (with_reducible assumption) | assumption); have q372 : t360 < (t369.length : Int) := of_decide_eq_true (by first | (with_reducible assumption) | assumption); obtain ⟨ad372, e372, hx372_0⟩ := Kd.at_bool (Kd.R_reads' HO371.out).2.2 t360 p372 q372; cases e372; replace p372 := eq_true p372; replace q372 := eq_true q372))
                                              go_ret
                                              exact ⟨by first | rfl | (simp [errW_none, errW_some] <;> rfl) | (simp only [← hji28]; first | rfl | (simp [errW_none, errW_some] <;> rfl)) | (simp [*, errW_none, errW_some] <;> rfl), by repeat (first | (with_reducible first | exact HB.out | apply below_alloc | apply pw_below_drewN | apply below_drew1) | exact HB.out)⟩
                                            · rw [if_neg c47] at H
                                              exact absurd H (by simp)
                                          · rw [if_neg c45] at H
                                            have c45b0 : (t367 == 4) = false := beq_eq_false_iff_ne.mpr c45
                                            have c45b1 : (t367 != 4) = true := bne_iff_ne.mpr c45
                                            by_cases c51 : t367 = 6
                                            · rw [if_pos c51] at H
                                              have c51b0 : (t367 == 6) = true := beq_iff_eq.mpr c51
                                              have c51b1 : (t367 != 6) = false := bne_eq_false_iff_eq.mpr c51
                                              clear c51
                                              replace H := Option.bind_eq_some_iff.mp H
                                              obtain ⟨t374, A520, H⟩ := H
                                              replace H : (if t360 < (t374.length : Int) then (some (rdOf false t374 t360)) else (none)) = some r := H
                                              have A52 := Aside0.mk A520
                                              clear A520
                                              by_cases c53 : t360 < (t374.length : Int)
                                              · rw [if_pos c53] at H
                                                have c53b0 : decide (t360 < (t374.length : Int)) = true := decide_eq_true c53
                                                clear c53
                                                obtain rfl := Option.some.inj H
                                                have p366 : 0 ≤ (t360 : Int) := of_decide_eq_true (by first | (with_reducible assumption) | assumption)
                                                have q366 : t360 < (l0.length : Int) := of_decide_eq_true (by first | (with_reducible assumption) | assumption)
                                                obtain ⟨ad366, e366, hx366_0, hx366_1, hx366_2, hx366_3⟩ := at_T56 HR0.out t360 p366 q366
                                                obtain rfl : ad364 = ad366 := (by injection e366)
                                                replace hx366_0 := (HB.out.cell (World.block_lt_of_cell? w _ hx366_0)).trans hx366_0
                                                replace hx366_1 := (HB.out.cell (World.block_lt_of_cell? w _ hx366_1)).trans hx366_1
                                                replace hx366_2 := (HB.out.cell (World.block_lt_of_cell? w _ hx366_2)).trans hx366_2
                                                replace hx366_3 := (HB.out.cell (World.block_lt_of_cell? w _ hx366_3)).trans hx366_3
                                                replace p366 := eq_true p366
                                                replace q366 := eq_true q366
                                                go_wp2_with (first | ((with_reducible refine gate_callee (f := 45) rfl ?_); refine goesL_ (some 97) rfl rfl Try.func45 (by kernel_rfl) rfl #[.int .u16 ((rd_T56 l0 t360).f0)] rfl (by (try simp only [List.map_toArray, List.map_cons, List.map_nil]); first | done | rfl | (simp only [List.length_drop, List.length_take]; rfl)) ?_; (with_reducible refine (tamisref04_Kind.calls kj37 ((rd_T56 l0 t360).f0) t367 _ A43.out).mono ?_); rintro e w54 ⟨rfl, hb⟩; refine ⟨_, rfl, ?_⟩; have n0_ := Aside0.mk (below_step (by repeat (first | (with_reducible first | exact HB.out | apply below_alloc | apply pw_below_drewN | apply below_drew1) | exact HB.out)) hb); clear HB; have HB := n0_; clear n0_; (try clear hb); (try clear hb2); (try clear hk); (try clear hi); have p373 : 0 ≤ (t360 : Int) := of_decide_eq_true (by first | (with_reducible assumption) | assumption); have q373 : t360 < (l0.length : Int) := of_decide_eq_true (by first | (with_reducible assumption) | assumption); obtain ⟨ad373, e373, hx373_0, hx373_1, hx373_2, hx373_3⟩ := at_T56 HR0.out t360 p373 q373; obtain rfl : ad364 = ad373 := (by injection e373); replace hx373_0 := (HB.out.cell (World.block_lt_of_cell? w _ hx373_0)).trans hx373_0; replace hx373_1 := (HB.out.cell (World.block_lt_of_cell? w _ hx373_1)).trans hx373_1; replace hx373_2 := (HB.out.cell (World.block_lt_of_cell? w _ hx373_2)).trans hx373_2; replace hx373_3 := (HB.out.cell (World.block_lt_of_cell? w _ hx373_3)).trans hx373_3; replace p373 := eq_true p373; replace q373 := eq_true q373) | (go_at_call 48; (with_reducible refine (tamisref06_Without.calls kj37 _ _ l0 (wrap64 ((rd_T56 l0 t360).f3)) t374 _ ?side1 ?side2 A52.out).mono ?_); (case side1 => repeat (first | exact (Kd.C_below HR0.out HB.out) | (with_reducible refine Kd.C_alloc ?_ _) | (with_reducible refine Kd.C_drewN ?_ _) | (with_reducible refine Kd.C_drew ?_))); (case side2 => exact HC0.out); rintro e w55 ⟨v375, rfl, ho0, hb⟩; have n0_ := Aside0.mk (Kd.R_lower ho0 (below_size (by repeat (first | (with_reducible first | exact HB.out | apply below_alloc | apply pw_below_drewN | apply below_drew1) | exact HB.out)))); have n1_ := Aside0.mk (below_step (by repeat (first | (with_reducible first | exact HB.out | apply below_alloc | apply pw_below_drewN | apply below_drew1) | exact HB.out)) hb); clear HB; have HO376 := n0_; have HB := n1_; clear n0_ n1_; (try clear hb); (try clear hb2); (try clear hk); (try clear hi); (try clear ho0); obtain ⟨Ao56, co56, eo56⟩ := Kd.R_slice HO376.out; subst eo56; have p377 : 0 ≤ (t360 : Int) := of_decide_eq_true (by first | (with_reducible assumption) | assumption); have q377 : t360 < (t374.length : Int) := of_decide_eq_true (by first | (with_reducible assumption) | assumption); obtain ⟨ad377, e377, hx377_0⟩ := Kd.at_bool (Kd.R_reads' HO376.out).2.2 t360 p377 q377; cases e377; replace p377 := eq_true p377; replace q377 := eq_true q377))
                                                go_ret
                                                exact ⟨by first | rfl | (simp [errW_none, errW_some] <;> rfl) | (simp only [← hji28]; first | rfl | (simp [errW_none, errW_some] <;> rfl)) | (simp [*, errW_none, errW_some] <;> rfl), by repeat (first | (with_reducible first | exact HB.out | apply below_alloc | apply pw_below_drewN | apply below_drew1) | exact HB.out)⟩
                                              · rw [if_neg c53] at H
                                                exact absurd H (by simp)
                                            · rw [if_neg c51] at H
                                              have c51b0 : (t367 == 6) = false := beq_eq_false_iff_ne.mpr c51
                                              have c51b1 : (t367 != 6) = true := bne_iff_ne.mpr c51
                                              obtain rfl := Option.some.inj H
                                              have p366 : 0 ≤ (t360 : Int) := of_decide_eq_true (by first | (with_reducible assumption) | assumption)
                                              have q366 : t360 < (l0.length : Int) := of_decide_eq_true (by first | (with_reducible assumption) | assumption)
                                              obtain ⟨ad366, e366, hx366_0, hx366_1, hx366_2, hx366_3⟩ := at_T56 HR0.out t360 p366 q366
                                              obtain rfl : ad364 = ad366 := (by injection e366)
                                              replace hx366_0 := (HB.out.cell (World.block_lt_of_cell? w _ hx366_0)).trans hx366_0
                                              replace hx366_1 := (HB.out.cell (World.block_lt_of_cell? w _ hx366_1)).trans hx366_1
                                              replace hx366_2 := (HB.out.cell (World.block_lt_of_cell? w _ hx366_2)).trans hx366_2
                                              replace hx366_3 := (HB.out.cell (World.block_lt_of_cell? w _ hx366_3)).trans hx366_3
                                              replace p366 := eq_true p366
                                              replace q366 := eq_true q366
                                              go_wp2_with (first | ((with_reducible refine gate_callee (f := 45) rfl ?_); refine goesL_ (some 97) rfl rfl Try.func45 (by kernel_rfl) rfl #[.int .u16 ((rd_T56 l0 t360).f0)] rfl (by (try simp only [List.map_toArray, List.map_cons, List.map_nil]); first | done | rfl | (simp only [List.length_drop, List.length_take]; rfl)) ?_; (with_reducible refine (tamisref04_Kind.calls kj37 ((rd_T56 l0 t360).f0) t367 _ A43.out).mono ?_); rintro e w57 ⟨rfl, hb⟩; refine ⟨_, rfl, ?_⟩; have n0_ := Aside0.mk (below_step (by repeat (first | (with_reducible first | exact HB.out | apply below_alloc | apply pw_below_drewN | apply below_drew1) | exact HB.out)) hb); clear HB; have HB := n0_; clear n0_; (try clear hb); (try clear hb2); (try clear hk); (try clear hi)))
                                              go_ret
                                              exact ⟨by first | rfl | (simp [errW_none, errW_some] <;> rfl) | (simp only [← hji28]; first | rfl | (simp [errW_none, errW_some] <;> rfl)) | (simp [*, errW_none, errW_some] <;> rfl), by repeat (first | (with_reducible first | exact HB.out | apply below_alloc | apply pw_below_drewN | apply below_drew1) | exact HB.out)⟩
                                        · rw [if_neg c44] at H
                                          have c44b0 : (t361 == 10) = false := beq_eq_false_iff_ne.mpr c44
                                          have c44b1 : (t361 != 10) = true := bne_iff_ne.mpr c44
                                          obtain rfl := Option.some.inj H
                                          have p366 : 0 ≤ (t360 : Int) := of_decide_eq_true (by first | (with_reducible assumption) | assumption)
                                          have q366 : t360 < (l0.length : Int) := of_decide_eq_true (by first | (with_reducible assumption) | assumption)
                                          obtain ⟨ad366, e366, hx366_0, hx366_1, hx366_2, hx366_3⟩ := at_T56 HR0.out t360 p366 q366
                                          obtain rfl : ad364 = ad366 := (by injection e366)
                                          replace hx366_0 := (HB.out.cell (World.block_lt_of_cell? w _ hx366_0)).trans hx366_0
                                          replace hx366_1 := (HB.out.cell (World.block_lt_of_cell? w _ hx366_1)).trans hx366_1
                                          replace hx366_2 := (HB.out.cell (World.block_lt_of_cell? w _ hx366_2)).trans hx366_2
                                          replace hx366_3 := (HB.out.cell (World.block_lt_of_cell? w _ hx366_3)).trans hx366_3
                                          replace p366 := eq_true p366
                                          replace q366 := eq_true q366
                                          go_wp2_with (first | ((with_reducible refine gate_callee (f := 45) rfl ?_); refine goesL_ (some 97) rfl rfl Try.func45 (by kernel_rfl) rfl #[.int .u16 ((rd_T56 l0 t360).f0)] rfl (by (try simp only [List.map_toArray, List.map_cons, List.map_nil]); first | done | rfl | (simp only [List.length_drop, List.length_take]; rfl)) ?_; (with_reducible refine (tamisref04_Kind.calls kj37 ((rd_T56 l0 t360).f0) t367 _ A43.out).mono ?_); rintro e w58 ⟨rfl, hb⟩; refine ⟨_, rfl, ?_⟩; have n0_ := Aside0.mk (below_step (by repeat (first | (with_reducible first | exact HB.out | apply below_alloc | apply pw_below_drewN | apply below_drew1) | exact HB.out)) hb); clear HB; have HB := n0_; clear n0_; (try clear hb); (try clear hb2); (try clear hk); (try clear hi)))
                                          go_ret
                                          exact ⟨by first | rfl | (simp [errW_none, errW_some] <;> rfl) | (simp only [← hji28]; first | rfl | (simp [errW_none, errW_some] <;> rfl)) | (simp [*, errW_none, errW_some] <;> rfl), by repeat (first | (with_reducible first | exact HB.out | apply below_alloc | apply pw_below_drewN | apply below_drew1) | exact HB.out)⟩
                                      · rw [if_neg c42] at H
                                        exact absurd H (by simp)
                                    · rw [if_neg c41] at H
                                      exact absurd H (by simp)
                    · rw [if_neg c30] at H
                      exact absurd H (by simp)
                  · rw [if_neg c29] at H
                    exact absurd H (by simp)
        · rw [if_neg c12] at H
          exact absurd H (by simp)

end Go.Proofs.Ytmjpibeiglicdaa.X
