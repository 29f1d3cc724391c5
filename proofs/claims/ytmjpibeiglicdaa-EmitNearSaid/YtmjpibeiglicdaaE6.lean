/- Functions of the program as plain Lean functions, and their contracts; written by a program out of the translation. -/
import Derived.Test.YtmjpibeiglicdaaE0
import Derived.Test.YtmjpibeiglicdaaE2
import Derived.Test.YtmjpibeiglicdaaE5
namespace Go.Proofs.Ytmjpibeiglicdaa.E
open Go.RowKit Go.Proofs.YtmjpibeiglicdaaU.PrintWords Go.Proofs.YtmjpibeiglicdaaU.PrintLast Go.Proofs.YtmjpibeiglicdaaU.PrintMore
attribute [local go_sem] max2_int min2_int max_two min_two max_three min_three max_four min_four   -- for this text's walks alone
set_option linter.unusedVariables false
set_option linter.unusedSimpArgs false

/-! ### tamisref23_Long: function 55 -/
mutual
def tamisref23_Long.l0 : Nat → List (S38) → List Bool → Int → Option (List Bool)
  | 0, _, _, _ => none
  | k + 1, x0, x3, x4 => if x4 ≤ (x0.length : Int) then ((tamisref23_Places.f k x0 x3).bind fun t154 => (tamisref23_Long.l1 k x0 x3 x4 t154 false 0)) else (some x3)
def tamisref23_Long.l1 : Nat → List (S38) → List Bool → Int → List Int → Bool → Int → Option (List Bool)
  | 0, _, _, _, _, _, _ => none
  | k + 1, x0, x3, x4, x5, x6, x7 => if x7 < (x0.length : Int) then (if 0 ≤ x7 then (if ((rd_T38 x0 x7).f0) = 3 then (if x7 < (x3.length : Int) then (tamisref23_Long.j2 k x0 x3 x4 x5 x6 x7 (rdOf false x3 x7)) else (none)) else (tamisref23_Long.j2 k x0 x3 x4 x5 x6 x7 true)) else (none)) else (if x6 = true then (tamisref23_Long.l0 k x0 x3 (wrap64 (x4 + 1))) else (some x3))
def tamisref23_Long.j2 : Nat → List (S38) → List Bool → Int → List Int → Bool → Int → Bool → Option (List Bool)
  | 0, _, _, _, _, _, _, _ => none
  | k + 1, x0, x3, x4, x5, x6, x7, x38 => if x38 = true then (tamisref23_Long.l1 k x0 x3 x4 x5 x6 (wrap64 (x7 + 1))) else (if 0 ≤ x7 then (if x7 < (x0.length : Int) then ((tamisref23_Marked.f k x0 ((rd_T38 x0 x7).f3) x7).bind fun t160 => (if 0 ≤ t160 then (if t160 < (x5.length : Int) then ((tamisref23_Marked.f k x0 ((rd_T38 x0 x7).f4) x7).bind fun t163 => (if 0 ≤ t163 then (if t163 < (x5.length : Int) then (if x7 < (x5.length : Int) then (if (wrap64 ((wrap64 ((mx (rd x5 t160) (rd x5 t163)) - (rd x5 x7))) - 1)) > 255 then (if x7 < (x3.length : Int) then (tamisref23_Long.l1 k x0 (x3.set (x7 : Int).toNat true) x4 x5 true (wrap64 (x7 + 1))) else (none)) else (tamisref23_Long.l1 k x0 x3 x4 x5 x6 (wrap64 (x7 + 1)))) else (none)) else (none)) else (none))) else (none)) else (none))) else (none)) else (none))
end
def tamisref23_Long.f (k : Nat) (l0 : List (S38)) : Option (List Bool) := if 0 ≤ (l0.length : Int) then (if ((l0.length : Int) : Int).toNat ≤ 281474976710656 then (tamisref23_Long.l0 k l0 (List.replicate ((l0.length : Int) : Int).toNat false) 0) else (none)) else (none)
theorem tamisref23_Long.mono_l : ∀ k, (∀ y0 y1 y2, LeO (tamisref23_Long.l0 k y0 y1 y2) (tamisref23_Long.l0 (k + 1) y0 y1 y2)) ∧ (∀ y0 y1 y2 y3 y4 y5, LeO (tamisref23_Long.l1 k y0 y1 y2 y3 y4 y5) (tamisref23_Long.l1 (k + 1) y0 y1 y2 y3 y4 y5)) ∧ (∀ y0 y1 y2 y3 y4 y5 y6, LeO (tamisref23_Long.j2 k y0 y1 y2 y3 y4 y5 y6) (tamisref23_Long.j2 (k + 1) y0 y1 y2 y3 y4 y5 y6))
  | 0 => ⟨fun _ _ _ r h => by simp [tamisref23_Long.l0] at h, fun _ _ _ _ _ _ r h => by simp [tamisref23_Long.l1] at h, fun _ _ _ _ _ _ _ r h => by simp [tamisref23_Long.j2] at h⟩
  | k + 1 => by
    obtain ⟨ih0, ih1, ih2⟩ := tamisref23_Long.mono_l k
    refine ⟨?_, ?_, ?_⟩
    · intro y0 y1 y2
      unfold tamisref23_Long.l0
      repeat' first
      | (with_reducible exact ih0 _ _ _)
      | (with_reducible exact ih1 _ _ _ _ _ _)
      | (with_reducible exact ih2 _ _ _ _ _ _ _)
      | (with_reducible exact tamisref23_Marked.mono _ _ _ _)
      | (with_reducible exact tamisref23_Places.mono _ _ _)
      | (with_reducible exact LeO.refl _)
      | (with_reducible exact LeO.none _)
      | (with_reducible refine LeO.ite ?_ ?_)
      | (with_reducible refine LeO.bind ?_ (fun _ => ?_))
      | exact ih0 _ _ _
      | exact ih1 _ _ _ _ _ _
      | exact ih2 _ _ _ _ _ _ _
      | exact tamisref23_Marked.mono _ _ _ _
      | exact tamisref23_Places.mono _ _ _
      | exact LeO.none _
      | refine LeO.ite ?_ ?_
      | refine LeO.bind ?_ (fun _ => ?_)
    · intro y0 y1 y2 y3 y4 y5
      unfold tamisref23_Long.l1
      repeat' first
      | (with_reducible exact ih0 _ _ _)
      | (with_reducible exact ih1 _ _ _ _ _ _)
      | (with_reducible exact ih2 _ _ _ _ _ _ _)
      | (with_reducible exact tamisref23_Marked.mono _ _ _ _)
      | (with_reducible exact tamisref23_Places.mono _ _ _)
      | (with_reducible exact LeO.refl _)
      | (with_reducible exact LeO.none _)
      | (with_reducible refine LeO.ite ?_ ?_)
      | (with_reducible refine LeO.bind ?_ (fun _ => ?_))
      | exact ih0 _ _ _
      | exact ih1 _ _ _ _ _ _
      | exact ih2 _ _ _ _ _ _ _
      | exact tamisref23_Marked.mono _ _ _ _
      | exact tamisref23_Places.mono _ _ _
      | exact LeO.none _
      | refine LeO.ite ?_ ?_
      | refine LeO.bind ?_ (fun _ => ?_)
    · intro y0 y1 y2 y3 y4 y5 y6
      unfold tamisref23_Long.j2
      repeat' first
      | (with_reducible exact ih0 _ _ _)
      | (with_reducible exact ih1 _ _ _ _ _ _)
      | (with_reducible exact ih2 _ _ _ _ _ _ _)
      | (with_reducible exact tamisref23_Marked.mono _ _ _ _)
      | (with_reducible exact tamisref23_Places.mono _ _ _)
      | (with_reducible exact LeO.refl _)
      | (with_reducible exact LeO.none _)
      | (with_reducible refine LeO.ite ?_ ?_)
      | (with_reducible refine LeO.bind ?_ (fun _ => ?_))
      | exact ih0 _ _ _
      | exact ih1 _ _ _ _ _ _
      | exact ih2 _ _ _ _ _ _ _
      | exact tamisref23_Marked.mono _ _ _ _
      | exact tamisref23_Places.mono _ _ _
      | exact LeO.none _
      | refine LeO.ite ?_ ?_
      | refine LeO.bind ?_ (fun _ => ?_)
theorem tamisref23_Long.mono : ∀ a0 k, LeO (tamisref23_Long.f k a0) (tamisref23_Long.f (k + 1) a0) := by
  intro a0 k
  obtain ⟨ih0, ih1, ih2⟩ := tamisref23_Long.mono_l k
  unfold tamisref23_Long.f
  repeat' first
      | (with_reducible exact ih0 _ _ _)
      | (with_reducible exact ih1 _ _ _ _ _ _)
      | (with_reducible exact ih2 _ _ _ _ _ _ _)
      | (with_reducible exact tamisref23_Marked.mono _ _ _ _)
      | (with_reducible exact tamisref23_Places.mono _ _ _)
      | (with_reducible exact LeO.refl _)
      | (with_reducible exact LeO.none _)
      | (with_reducible refine LeO.ite ?_ ?_)
      | (with_reducible refine LeO.bind ?_ (fun _ => ?_))
      | exact ih0 _ _ _
      | exact ih1 _ _ _ _ _ _
      | exact ih2 _ _ _ _ _ _ _
      | exact tamisref23_Marked.mono _ _ _ _
      | exact tamisref23_Places.mono _ _ _
      | exact LeO.none _
      | refine LeO.ite ?_ ?_
      | refine LeO.bind ?_ (fun _ => ?_)
def tamisref23_Long.T11 : Bool × List (List Nat × List Nat) := (true, [([], []), ([], []), ([], []), ([], []), ([2, 3], [2, 3]), ([4], [4]), ([5], [5]), ([], []), ([1, 6, 7], [1, 6, 7]), ([0, 8], [0, 8]), ([9], [9]), ([], []), ([], []), ([], []), ([], []), ([13, 14], [13, 14]), ([15], [15]), ([16], [16]), ([], []), ([12, 17, 18, 8], [12, 17, 18]), ([11, 19], [11, 19]), ([20], [20]), ([10, 21], [10, 21]), ([], []), ([], []), ([23, 24], [23, 24]), ([25], [25]), ([22, 26], [22, 26]), ([27], [27]), ([28, 19, 0, 1, 2, 3, 4, 5, 6, 7, 8, 9, 10, 11, 12, 13, 14, 15, 16, 17, 18, 19, 20, 21, 22, 23, 24, 25, 26, 27, 28], [28])])
def tamisref23_Long.B11 : List Nat := [0, 0, 0, 0, 12, 28, 60, 0, 254, 511, 1023, 0, 0, 0, 0, 24576, 57344, 122880, 0, 520702, 1047038, 2095614, 4194303, 0, 0, 25165824, 58720256, 134217727, 268435455, 536870911]
theorem tamisref23_Long.tab11 : rtab .any (opsOf Try.f55 11) = tamisref23_Long.T11 := by kernel_rfl
theorem tamisref23_Long.bits11 : waitsOk tamisref23_Long.T11.2 tamisref23_Long.B11 = true := by kernel_rfl
set_option maxHeartbeats 8000000 in
set_option maxRecDepth 100000 in
theorem tamisref23_Long.calls (k : Nat) (A0 : Option Addr) (c0 : Nat) (l0 : List (S38)) (r : List Bool) (w : World) (hr0 : Kd.C k38 w A0 l0.length l0) (hc0 : l0.length ≤ c0) (h : tamisref23_Long.f k l0 = some r) :
    Calls Try.prog 55 #[.slice A0 l0.length c0] w fun e w' => ∃ v0_ : Value, e = .returned (v0_) ∧ Kd.R Kd.bool 4 w' w.heap.size (fun _ => True) v0_ r ∧ Below w.heap.size w w' := by
  have HR0 := Aside0.mk hr0
  have HC0 := Aside0.mk hc0
  clear hr0 hc0
  have HB := Aside0.mk (Below.refl w.heap.size w)
  have H : (if 0 ≤ (l0.length : Int) then (if ((l0.length : Int) : Int).toNat ≤ 281474976710656 then (tamisref23_Long.l0 k l0 (List.replicate ((l0.length : Int) : Int).toNat false) 0) else (none)) else (none)) = some r := h
  clear h
  by_cases c2 : 0 ≤ (l0.length : Int)
  · rw [if_pos c2] at H
    have c2b0 := eq_true c2
    have c2b1 : decide (0 ≤ (l0.length : Int)) = true := decide_eq_true c2
    clear c2
    by_cases c3 : ((l0.length : Int) : Int).toNat ≤ 281474976710656
    · rw [if_pos c3] at H
      have c3b0 := eq_true c3
      have c3b1 : decide (((l0.length : Int) : Int).toNat ≤ 281474976710656) = true := decide_eq_true c3
      clear c3
      obtain ⟨y151, hy151⟩ : ∃ y_ : List Bool, y_ = (List.replicate ((l0.length : Int) : Int).toNat false) := ⟨_, rfl⟩
      replace H : (tamisref23_Long.l0 k l0 y151 0) = some r := by first | (rw [hy151]; with_reducible exact H) | (have H2_ := (Option.bind_some _ _).symm.trans H; rw [hy151]; with_reducible exact H2_) | (have H2_ := (Option.bind_some _ _).symm.trans H; with_reducible exact H2_) | with_reducible exact H | (rw [hy151]; exact H) | exact H
      have Ny151 := Aside0.mk hy151
      clear hy151
      have H' := Aside0.mk H
      clear H
      go_enter Try.func55, Try.ntmps55
      go_wp2_with (first | ((with_reducible refine gate_dst (N := 11) rfl ?_); refine Kd.R_make Kd.bool _ 4 rfl (N := 11) rfl 54 _ _ rfl (l0.length : Int) rfl rfl Try.underlying54 (.bool false) 1 info4 rfl (by decide) (by omega) false (ok := fun _ => True) (okp := fun _ => True) rfl (fun _ hk => hk) trivial (of_decide_eq_true (by first | (with_reducible assumption) | assumption)) (Nat.le_trans (Nat.mul_le_mul_right _ (of_decide_eq_true (by first | (with_reducible assumption) | assumption) : (l0.length : Int).toNat ≤ 281474976710656)) (by omega)) (Below.refl _ _) (Nat.le_refl _) ?_; intro v152 w4 ho5 hb hg_ hnew_; clear hg_ hnew_; (first | rw [← Ny151.out] at ho5 | (simp only [Int.reduceToNat] at ho5; rw [← Ny151.out] at ho5)); have n0_ := Aside0.mk (Kd.R_lower ho5 (below_size (by repeat (first | (with_reducible first | exact HB.out | apply below_alloc | apply pw_below_drewN | apply below_drew1) | exact HB.out)))); have n1_ := Aside0.mk (below_step (by repeat (first | (with_reducible first | exact HB.out | apply below_alloc | apply pw_below_drewN | apply below_drew1) | exact HB.out)) hb); clear HB; have HO153 := n0_; have HB := n1_; clear n0_ n1_; clear hb ho5))
      go_loopg [4] k (fun kq v4 w' => ∃ (x3_1 : List Bool) (x4_1 : Int), v4 = .int .i64 x4_1 ∧ Aside0 (tamisref23_Long.l0 kq l0 x3_1 x4_1 = some r) ∧ Aside0 (kq ≤ k) ∧ Aside0 (Kd.R Kd.bool 4 w' w.heap.size (fun _ => True) v152 x3_1) ∧ Aside0 (Below w.heap.size w w'))
      case atStart => exact ⟨(y151), (0), (by first | rfl | (simp; done) | (simp [*]; done)), H', ⟨Nat.le_refl _⟩, ⟨by (with_reducible repeat (first | apply Kd.R_alloc | apply Kd.R_drewN | apply Kd.R_drew)); exact HO153.out⟩, ⟨by repeat (first | (with_reducible first | exact HB.out | apply below_alloc | apply pw_below_drewN | apply below_drew1) | exact HB.out)⟩⟩
      case round =>
        clear H'
        try clear c2
        try clear c2b0
        try clear c2b1
        try clear p2
        try clear c3
        try clear c3b0
        try clear c3b1
        try clear c5
        obtain ⟨x3_1, x4_1, rfl, HA, HK1, HO_3, HB⟩ := hrel
        cases gk with
        | zero => exact absurd HA.out (by simp [tamisref23_Long.l0])
        | succ k1 =>
          have H := HA.out
          clear HA
          simp only [tamisref23_Long.l0] at H
          by_cases c6 : x4_1 ≤ (l0.length : Int)
          · rw [if_pos c6] at H
            have c6b0 : decide (x4_1 ≤ (l0.length : Int)) = true := decide_eq_true c6
            clear c6
            replace H := Option.bind_eq_some_iff.mp H
            obtain ⟨t154, A70, H⟩ := H
            replace H : (tamisref23_Long.l1 k1 l0 x3_1 x4_1 t154 false 0) = some r := H
            have A7 := Aside0.mk A70
            clear A70
            have H' := Aside0.mk H
            clear H
            obtain ⟨Ao8, co8, eo8⟩ := Kd.R_slice HO_3.out
            subst eo8
            go_wp2_with (first | ((with_reducible refine gate_callee (f := 57) rfl ?_); refine goesL_ (some 20) rfl rfl Try.func57 (by kernel_rfl) rfl #[.slice A0 l0.length c0, .slice Ao8 x3_1.length co8] rfl (by (try simp only [List.map_toArray, List.map_cons, List.map_nil]); first | done | rfl | (simp only [List.length_drop, List.length_take]; rfl)) ?_; (with_reducible refine (tamisref23_Places.calls k1 _ _ l0 _ _ x3_1 t154 _ ?side1 ?side2 ?side3 ?side4 A7.out).mono ?_); (case side1 => repeat (first | exact (Kd.C_below HR0.out HB.out) | (with_reducible refine Kd.C_alloc ?_ _) | (with_reducible refine Kd.C_drewN ?_ _) | (with_reducible refine Kd.C_drew ?_))); (case side2 => exact HC0.out); (case side3 => repeat (first | exact (Kd.R_reads' HO_3.out).2.2 | (with_reducible refine Kd.C_alloc ?_ _) | (with_reducible refine Kd.C_drewN ?_ _) | (with_reducible refine Kd.C_drew ?_))); (case side4 => exact (Kd.R_reads' HO_3.out).2.1); rintro e w9 ⟨v155, rfl, ho0, hb⟩; refine ⟨_, rfl, ?_⟩; have n0_ := Aside0.mk (Kd.R_below (by (with_reducible repeat (first | apply Kd.R_alloc | apply Kd.R_drewN | apply Kd.R_drew)); exact HO_3.out) hb); have n1_ := Aside0.mk (Kd.R_lower ho0 (below_size (by repeat (first | (with_reducible first | exact HB.out | apply below_alloc | apply pw_below_drewN | apply below_drew1) | exact HB.out)))); have n2_ := Aside0.mk (below_step (by repeat (first | (with_reducible first | exact HB.out | apply below_alloc | apply pw_below_drewN | apply below_drew1) | exact HB.out)) hb); clear HO_3; clear HB; have HO_3 := n0_; have HO156 := n1_; have HB := n2_; clear n0_ n1_ n2_; (try clear hb); (try clear hb2); (try clear hk); (try clear hi); (try clear ho0)))
            go_loopg [6, 7] k1 (fun kq v6 v7 w' => ∃ (x3_2 : List Bool) (x6_2 : Bool) (x7_2 : Int), v6 = .bool x6_2 ∧ v7 = .int .i64 x7_2 ∧ Aside0 (tamisref23_Long.l1 kq l0 x3_2 x4_1 t154 x6_2 x7_2 = some r) ∧ Aside0 (kq ≤ k1) ∧ Aside0 (Kd.R Kd.bool 4 w' w.heap.size (fun _ => True) (.slice Ao8 x3_1.length co8) x3_2) ∧ Aside0 (Kd.R (Kd.int .i64) 3 w' w.heap.size (fun _ => True) v155 t154) ∧ Aside0 (Below w.heap.size w w'))
            case atStart => exact ⟨(x3_1), (false), (0), (by first | rfl | (simp; done) | (simp [*]; done)), (by first | rfl | (simp; done) | (simp [*]; done)), H', ⟨Nat.le_refl _⟩, ⟨by (with_reducible repeat (first | apply Kd.R_alloc | apply Kd.R_drewN | apply Kd.R_drew)); exact HO_3.out⟩, ⟨by (with_reducible repeat (first | apply Kd.R_alloc | apply Kd.R_drewN | apply Kd.R_drew)); exact HO156.out⟩, ⟨by repeat (first | (with_reducible first | exact HB.out | apply below_alloc | apply pw_below_drewN | apply below_drew1) | exact HB.out)⟩⟩
            case round =>
              clear H'
              try clear c2
              try clear c2b0
              try clear c2b1
              try clear p2
              try clear c3
              try clear c3b0
              try clear c3b1
              try clear c5
              try clear c6
              try clear c6b0
              try clear p2
              obtain ⟨x3_2, x6_2, x7_2, rfl, rfl, HA, HK2, HO_3, HO_5, HB⟩ := hrel
              have hl3_2 := (Kd.R_reads' HO_3.out).1
              rw [hl3_2] at HO_3
              (try simp only [hl3_2])
              (try simp only [hl3_2] at HO_5)
              cases gk with
              | zero => exact absurd HA.out (by simp [tamisref23_Long.l1])
              | succ k2 =>
                have H := HA.out
                clear HA
                simp only [tamisref23_Long.l1] at H
                by_cases c10 : x7_2 < (l0.length : Int)
                · rw [if_pos c10] at H
                  have c10b0 : decide (x7_2 < (l0.length : Int)) = true := decide_eq_true c10
                  clear c10
                  have HC11 := Aside0.mk H
                  clear H
                  go_upto_region 10 with (fail)
                  go_cut [38] (fun v38 wc => ∃ (kq : Nat) (x38_10 : Bool), v38 = .bool x38_10 ∧ Aside0 (tamisref23_Long.j2 kq l0 x3_2 x4_1 t154 x6_2 x7_2 x38_10 = some r) ∧ Aside0 (kq ≤ k2) ∧ Aside0 (Kd.R Kd.bool 4 wc w.heap.size (fun _ => True) (.slice Ao8 x3_2.length co8) x3_2) ∧ Aside0 (Kd.R (Kd.int .i64) 3 wc w.heap.size (fun _ => True) v155 t154) ∧ Aside0 (Below w.heap.size w wc))
                  case first =>
                    have H := HC11.out
                    clear HC11
                    by_cases c12 : 0 ≤ x7_2
                    · rw [if_pos c12] at H
                      have c12b0 : decide (0 ≤ x7_2) = true := decide_eq_true c12
                      clear c12
                      (first | rw [c12b0] | (simp only [i64_w, i32_w]; rw [c12b0]) | skip)
                      by_cases c13 : ((rd_T38 l0 x7_2).f0) = 3
                      · rw [if_pos c13] at H
                        have c13b0 : (((rd_T38 l0 x7_2).f0) == 3) = true := beq_iff_eq.mpr c13
                        have c13b1 : (((rd_T38 l0 x7_2).f0) != 3) = false := bne_eq_false_iff_eq.mpr c13
                        clear c13
                        by_cases c14 : x7_2 < (x3_2.length : Int)
                        · rw [if_pos c14] at H
                          have c14b0 : decide (x7_2 < (x3_2.length : Int)) = true := decide_eq_true c14
                          clear c14
                          have H' := Aside0.mk H
                          clear H
                          have p157 : 0 ≤ (x7_2 : Int) := of_decide_eq_true (by first | (with_reducible assumption) | assumption)
                          have q157 : x7_2 < (l0.length : Int) := of_decide_eq_true (by first | (with_reducible assumption) | assumption)
                          obtain ⟨ad157, e157, hx157_0, hx157_1, hx157_2, hx157_3, hx157_4⟩ := at_T38 HR0.out x7_2 p157 q157
                          cases e157
                          replace hx157_0 := (HB.out.cell (World.block_lt_of_cell? w _ hx157_0)).trans hx157_0
                          replace hx157_1 := (HB.out.cell (World.block_lt_of_cell? w _ hx157_1)).trans hx157_1
                          replace hx157_2 := (HB.out.cell (World.block_lt_of_cell? w _ hx157_2)).trans hx157_2
                          replace hx157_3 := (HB.out.cell (World.block_lt_of_cell? w _ hx157_3)).trans hx157_3
                          replace hx157_4 := (HB.out.cell (World.block_lt_of_cell? w _ hx157_4)).trans hx157_4
                          replace p157 := eq_true p157
                          replace q157 := eq_true q157
                          have p158 : 0 ≤ (x7_2 : Int) := of_decide_eq_true (by first | (with_reducible assumption) | assumption)
                          have q158 : x7_2 < (x3_2.length : Int) := of_decide_eq_true (by first | (with_reducible assumption) | assumption)
                          obtain ⟨ad158, e158, hx158_0⟩ := Kd.at_bool (Kd.R_reads' HO_3.out).2.2 x7_2 p158 q158
                          cases e158
                          replace p158 := eq_true p158
                          replace q158 := eq_true q158
                          go_wp2
                          go_meet
                          case rel => exact ⟨_, (rdOf false x3_2 x7_2), (by first | rfl | (simp; done) | (simp [*]; done)), H', ⟨by have := HK1.out; have := HK2.out; first | omega | exact Nat.le_refl _⟩, ⟨by (try simp only [hl3_2]); (with_reducible repeat (first | apply Kd.R_alloc | apply Kd.R_drewN | apply Kd.R_drew)); exact HO_3.out⟩, ⟨by (try simp only [hl3_2]); (with_reducible repeat (first | apply Kd.R_alloc | apply Kd.R_drewN | apply Kd.R_drew)); exact HO_5.out⟩, ⟨by repeat (first | (with_reducible first | exact HB.out | apply below_alloc | apply pw_below_drewN | apply below_drew1) | exact HB.out)⟩⟩
                        · rw [if_neg c14] at H
                          exact absurd H (by simp)
                      · rw [if_neg c13] at H
                        have c13b0 : (((rd_T38 l0 x7_2).f0) == 3) = false := beq_eq_false_iff_ne.mpr c13
                        have c13b1 : (((rd_T38 l0 x7_2).f0) != 3) = true := bne_iff_ne.mpr c13
                        have H' := Aside0.mk H
                        clear H
                        have p157 : 0 ≤ (x7_2 : Int) := of_decide_eq_true (by first | (with_reducible assumption) | assumption)
                        have q157 : x7_2 < (l0.length : Int) := of_decide_eq_true (by first | (with_reducible assumption) | assumption)
                        obtain ⟨ad157, e157, hx157_0, hx157_1, hx157_2, hx157_3, hx157_4⟩ := at_T38 HR0.out x7_2 p157 q157
                        cases e157
                        replace hx157_0 := (HB.out.cell (World.block_lt_of_cell? w _ hx157_0)).trans hx157_0
                        replace hx157_1 := (HB.out.cell (World.block_lt_of_cell? w _ hx157_1)).trans hx157_1
                        replace hx157_2 := (HB.out.cell (World.block_lt_of_cell? w _ hx157_2)).trans hx157_2
                        replace hx157_3 := (HB.out.cell (World.block_lt_of_cell? w _ hx157_3)).trans hx157_3
                        replace hx157_4 := (HB.out.cell (World.block_lt_of_cell? w _ hx157_4)).trans hx157_4
                        replace p157 := eq_true p157
                        replace q157 := eq_true q157
                        go_wp2
                        go_meet
                        case rel => exact ⟨_, (true), (by first | rfl | (simp; done) | (simp [*]; done)), H', ⟨by have := HK1.out; have := HK2.out; first | omega | exact Nat.le_refl _⟩, ⟨by (try simp only [hl3_2]); (with_reducible repeat (first | apply Kd.R_alloc | apply Kd.R_drewN | apply Kd.R_drew)); exact HO_3.out⟩, ⟨by (try simp only [hl3_2]); (with_reducible repeat (first | apply Kd.R_alloc | apply Kd.R_drewN | apply Kd.R_drew)); exact HO_5.out⟩, ⟨by repeat (first | (with_reducible first | exact HB.out | apply below_alloc | apply pw_below_drewN | apply below_drew1) | exact HB.out)⟩⟩
                    · rw [if_neg c12] at H
                      exact absurd H (by simp)
                  case rest =>
                    clear HC11
                    try clear c1
                    try clear p1
                    try clear q1
                    try clear hx1
                    try clear c2
                    try clear c2b0
                    try clear c2b1
                    try clear p2
                    try clear c3
                    try clear c3b0
                    try clear c3b1
                    try clear c5
                    try clear c6
                    try clear c6b0
                    try clear c10
                    try clear c10b0
                    try clear c12
                    try clear c12b0
                    try clear c13
                    try clear c13b0
                    try clear c13b1
                    try clear c14
                    try clear c14b0
                    try clear hx157_0
                    try clear hx157_1
                    try clear hx157_2
                    try clear hx157_3
                    try clear hx157_4
                    try clear hx158_0
                    try clear p157
                    try clear p158
                    try clear p2
                    try clear q157
                    try clear q158
                    obtain ⟨kq, x38_10, rfl, HA, HJ10, HO_3, HO_5, HB⟩ := hcut
                    cases kq with
                    | zero => exact absurd HA.out (by simp [tamisref23_Long.j2])
                    | succ kj10 =>
                      have H := HA.out
                      clear HA
                      simp only [tamisref23_Long.j2] at H
                      by_cases c15 : x38_10 = true
                      · subst c15
                        have H1 : (tamisref23_Long.l1 kj10 l0 x3_2 x4_1 t154 x6_2 (wrap64 (x7_2 + 1))) = some r := by rw [if_pos rfl] at H; exact H
                        clear H
                        have H := H1
                        clear H1
                        have H' := Aside0.mk H
                        clear H
                        go_wp2
                        (try simp only [← hl3_2])
                        go_roundg kj10
                        case measure => have := HK1.out; have := HK2.out; have := HJ10.out; omega
                        case rel => exact ⟨(x3_2), (x6_2), (wrap64 (x7_2 + 1)), (by first | rfl | (simp; done) | (simp [*]; done)), (by first | rfl | (simp; done) | (simp [*]; done)), H', ⟨by have := HK1.out; have := HK2.out; have := HJ10.out; omega⟩, ⟨by (try simp only [hl3_2]); (with_reducible repeat (first | apply Kd.R_alloc | apply Kd.R_drewN | apply Kd.R_drew)); exact HO_3.out⟩, ⟨by (try simp only [hl3_2]); (with_reducible repeat (first | apply Kd.R_alloc | apply Kd.R_drewN | apply Kd.R_drew)); exact HO_5.out⟩, ⟨by repeat (first | (with_reducible first | exact HB.out | apply below_alloc | apply pw_below_drewN | apply below_drew1) | exact HB.out)⟩⟩
                      · replace c15 := Bool.eq_false_iff.mpr c15
                        subst c15
                        have H1 : (if 0 ≤ x7_2 then (if x7_2 < (l0.length : Int) then ((tamisref23_Marked.f kj10 l0 ((rd_T38 l0 x7_2).f3) x7_2).bind fun t160 => (if 0 ≤ t160 then (if t160 < (t154.length : Int) then ((tamisref23_Marked.f kj10 l0 ((rd_T38 l0 x7_2).f4) x7_2).bind fun t163 => (if 0 ≤ t163 then (if t163 < (t154.length : Int) then (if x7_2 < (t154.length : Int) then (if (wrap64 ((wrap64 ((mx (rd t154 t160) (rd t154 t163)) - (rd t154 x7_2))) - 1)) > 255 then (if x7_2 < (x3_2.length : Int) then (tamisref23_Long.l1 kj10 l0 (x3_2.set (x7_2 : Int).toNat true) x4_1 t154 true (wrap64 (x7_2 + 1))) else (none)) else (tamisref23_Long.l1 kj10 l0 x3_2 x4_1 t154 x6_2 (wrap64 (x7_2 + 1)))) else (none)) else (none)) else (none))) else (none)) else (none))) else (none)) else (none)) = some r := by rw [if_neg (show ¬ (false = true) by decide)] at H; exact H
                        clear H
                        have H := H1
                        clear H1
                        by_cases c16 : 0 ≤ x7_2
                        · rw [if_pos c16] at H
                          have c16b0 : decide (0 ≤ x7_2) = true := decide_eq_true c16
                          clear c16
                          by_cases c17 : x7_2 < (l0.length : Int)
                          · rw [if_pos c17] at H
                            have c17b0 : decide (x7_2 < (l0.length : Int)) = true := decide_eq_true c17
                            clear c17
                            replace H := Option.bind_eq_some_iff.mp H
                            obtain ⟨t160, A180, H⟩ := H
                            replace H : (if 0 ≤ t160 then (if t160 < (t154.length : Int) then ((tamisref23_Marked.f kj10 l0 ((rd_T38 l0 x7_2).f4) x7_2).bind fun t163 => (if 0 ≤ t163 then (if t163 < (t154.length : Int) then (if x7_2 < (t154.length : Int) then (if (wrap64 ((wrap64 ((mx (rd t154 t160) (rd t154 t163)) - (rd t154 x7_2))) - 1)) > 255 then (if x7_2 < (x3_2.length : Int) then (tamisref23_Long.l1 kj10 l0 (x3_2.set (x7_2 : Int).toNat true) x4_1 t154 true (wrap64 (x7_2 + 1))) else (none)) else (tamisref23_Long.l1 kj10 l0 x3_2 x4_1 t154 x6_2 (wrap64 (x7_2 + 1)))) else (none)) else (none)) else (none))) else (none)) else (none)) = some r := H
                            have A18 := Aside0.mk A180
                            clear A180
                            by_cases c19 : 0 ≤ t160
                            · rw [if_pos c19] at H
                              have c19b0 : decide (0 ≤ t160) = true := decide_eq_true c19
                              clear c19
                              by_cases c20 : t160 < (t154.length : Int)
                              · rw [if_pos c20] at H
                                have c20b0 : decide (t160 < (t154.length : Int)) = true := decide_eq_true c20
                                clear c20
                                replace H := Option.bind_eq_some_iff.mp H
                                obtain ⟨t163, A210, H⟩ := H
                                replace H : (if 0 ≤ t163 then (if t163 < (t154.length : Int) then (if x7_2 < (t154.length : Int) then (if (wrap64 ((wrap64 ((mx (rd t154 t160) (rd t154 t163)) - (rd t154 x7_2))) - 1)) > 255 then (if x7_2 < (x3_2.length : Int) then (tamisref23_Long.l1 kj10 l0 (x3_2.set (x7_2 : Int).toNat true) x4_1 t154 true (wrap64 (x7_2 + 1))) else (none)) else (tamisref23_Long.l1 kj10 l0 x3_2 x4_1 t154 x6_2 (wrap64 (x7_2 + 1)))) else (none)) else (none)) else (none)) = some r := H
                                have A21 := Aside0.mk A210
                                clear A210
                                by_cases c22 : 0 ≤ t163
                                · rw [if_pos c22] at H
                                  have c22b0 : decide (0 ≤ t163) = true := decide_eq_true c22
                                  clear c22
                                  by_cases c23 : t163 < (t154.length : Int)
                                  · rw [if_pos c23] at H
                                    have c23b0 : decide (t163 < (t154.length : Int)) = true := decide_eq_true c23
                                    clear c23
                                    obtain ⟨ji24, hji24⟩ : ∃ j_ : Int, (mx (rd t154 t160) (rd t154 t163)) = j_ := ⟨_, rfl⟩
                                    replace H : (if x7_2 < (t154.length : Int) then (if (wrap64 ((wrap64 ((ji24) - (rd t154 x7_2))) - 1)) > 255 then (if x7_2 < (x3_2.length : Int) then (tamisref23_Long.l1 kj10 l0 (x3_2.set (x7_2 : Int).toNat true) x4_1 t154 true (wrap64 (x7_2 + 1))) else (none)) else (tamisref23_Long.l1 kj10 l0 x3_2 x4_1 t154 x6_2 (wrap64 (x7_2 + 1)))) else (none)) = some r := by first | (rw [hji24] at H; exact H) | (simp only [hji24] at H ⊢; exact H)
                                    (try rw [hji24] at A18)
                                    (try rw [hji24] at A21)
                                    have hji24_ : (if (rd t154 t160) < (rd t154 t163) then (rd t154 t163) else (rd t154 t160)) = ji24 := hji24
                                    by_cases c25 : x7_2 < (t154.length : Int)
                                    · rw [if_pos c25] at H
                                      have c25b0 : decide (x7_2 < (t154.length : Int)) = true := decide_eq_true c25
                                      clear c25
                                      by_cases c26 : (wrap64 ((wrap64 ((ji24) - (rd t154 x7_2))) - 1)) > 255
                                      · rw [if_pos c26] at H
                                        have c26b0 : decide (255 < (wrap64 ((wrap64 ((ji24) - (rd t154 x7_2))) - 1))) = true := decide_eq_true c26
                                        clear c26
                                        by_cases c27 : x7_2 < (x3_2.length : Int)
                                        · rw [if_pos c27] at H
                                          have c27b0 : decide (x7_2 < (x3_2.length : Int)) = true := decide_eq_true c27
                                          clear c27
                                          obtain ⟨y166, hy166⟩ : ∃ y_ : List Bool, y_ = (x3_2.set (x7_2 : Int).toNat true) := ⟨_, rfl⟩
                                          replace H : (tamisref23_Long.l1 kj10 l0 y166 x4_1 t154 true (wrap64 (x7_2 + 1))) = some r := by first | (rw [hy166]; with_reducible exact H) | (have H2_ := (Option.bind_some _ _).symm.trans H; rw [hy166]; with_reducible exact H2_) | (have H2_ := (Option.bind_some _ _).symm.trans H; with_reducible exact H2_) | with_reducible exact H | (rw [hy166]; exact H) | exact H
                                          have Ny166 := Aside0.mk hy166
                                          clear hy166
                                          have H' := Aside0.mk H
                                          clear H
                                          try go_wp2
                                          have n0_ := Aside0.mk (Kd.R_drew HO_3.out)
                                          have n1_ := Aside0.mk (Kd.R_drew HO_5.out)
                                          have n2_ := Aside0.mk (below_drew1 HB.out)
                                          clear HO_3
                                          clear HO_5
                                          clear HB
                                          have HO_3 := n0_
                                          have HO_5 := n1_
                                          have HB := n2_
                                          clear n0_ n1_ n2_
                                          have p159 : 0 ≤ (x7_2 : Int) := of_decide_eq_true (by first | (with_reducible assumption) | assumption)
                                          have q159 : x7_2 < (l0.length : Int) := of_decide_eq_true (by first | (with_reducible assumption) | assumption)
                                          obtain ⟨ad159, e159, hx159_0, hx159_1, hx159_2, hx159_3, hx159_4⟩ := at_T38 HR0.out x7_2 p159 q159
                                          have hw159_4 := hx159_4
                                          have hw159_3 := hx159_3
                                          have hw159_2 := hx159_2
                                          have hw159_1 := hx159_1
                                          have hw159_0 := hx159_0
                                          cases e159
                                          replace hx159_0 := (HB.out.cell (World.block_lt_of_cell? w _ hx159_0)).trans hx159_0
                                          replace hx159_1 := (HB.out.cell (World.block_lt_of_cell? w _ hx159_1)).trans hx159_1
                                          replace hx159_2 := (HB.out.cell (World.block_lt_of_cell? w _ hx159_2)).trans hx159_2
                                          replace hx159_3 := (HB.out.cell (World.block_lt_of_cell? w _ hx159_3)).trans hx159_3
                                          replace hx159_4 := (HB.out.cell (World.block_lt_of_cell? w _ hx159_4)).trans hx159_4
                                          replace p159 := eq_true p159
                                          replace q159 := eq_true q159
                                          have p162 : 0 ≤ (x7_2 : Int) := of_decide_eq_true (by first | (with_reducible assumption) | assumption)
                                          have q162 : x7_2 < (l0.length : Int) := of_decide_eq_true (by first | (with_reducible assumption) | assumption)
                                          obtain ⟨ad162, e162, hx162_0, hx162_1, hx162_2, hx162_3, hx162_4⟩ := at_T38 HR0.out x7_2 p162 q162
                                          have hw162_4 := hx162_4
                                          have hw162_3 := hx162_3
                                          have hw162_2 := hx162_2
                                          have hw162_1 := hx162_1
                                          have hw162_0 := hx162_0
                                          obtain rfl : ad159 = ad162 := (by injection e162)
                                          replace hx162_0 := (HB.out.cell (World.block_lt_of_cell? w _ hx162_0)).trans hx162_0
                                          replace hx162_1 := (HB.out.cell (World.block_lt_of_cell? w _ hx162_1)).trans hx162_1
                                          replace hx162_2 := (HB.out.cell (World.block_lt_of_cell? w _ hx162_2)).trans hx162_2
                                          replace hx162_3 := (HB.out.cell (World.block_lt_of_cell? w _ hx162_3)).trans hx162_3
                                          replace hx162_4 := (HB.out.cell (World.block_lt_of_cell? w _ hx162_4)).trans hx162_4
                                          replace p162 := eq_true p162
                                          replace q162 := eq_true q162
                                          obtain ⟨Ao30, co30, eo30⟩ := Kd.R_slice HO_5.out
                                          (first | subst eo30 | (injection eo30 with f1_ f2_ f3_; have f4_ := f1_.symm; have f5_ := f3_.symm; clear f1_ f2_ f3_; subst f4_; subst f5_))
                                          have p165 : 0 ≤ (x7_2 : Int) := of_decide_eq_true (by first | (with_reducible assumption) | assumption)
                                          have q165 : x7_2 < (t154.length : Int) := of_decide_eq_true (by first | (with_reducible assumption) | assumption)
                                          obtain ⟨ad165, e165, hx165_0⟩ := Kd.at_int (Kd.R_reads' HO_5.out).2.2 x7_2 p165 q165
                                          cases e165
                                          replace p165 := eq_true p165
                                          replace q165 := eq_true q165
                                          have p161 : 0 ≤ (t160 : Int) := of_decide_eq_true (by first | (with_reducible assumption) | assumption)
                                          have q161 : t160 < (t154.length : Int) := of_decide_eq_true (by first | (with_reducible assumption) | assumption)
                                          obtain ⟨ad161, e161, hx161_0⟩ := Kd.at_int (Kd.R_reads' HO_5.out).2.2 t160 p161 q161
                                          obtain rfl : ad165 = ad161 := (by injection e161)
                                          replace p161 := eq_true p161
                                          replace q161 := eq_true q161
                                          have p164 : 0 ≤ (t163 : Int) := of_decide_eq_true (by first | (with_reducible assumption) | assumption)
                                          have q164 : t163 < (t154.length : Int) := of_decide_eq_true (by first | (with_reducible assumption) | assumption)
                                          obtain ⟨ad164, e164, hx164_0⟩ := Kd.at_int (Kd.R_reads' HO_5.out).2.2 t163 p164 q164
                                          obtain rfl : ad165 = ad164 := (by injection e164)
                                          replace p164 := eq_true p164
                                          replace q164 := eq_true q164
                                          refine start_ (n := 30) (S := fun w' => w'.cell? (ad159.add ((x7_2).toNat * 5)) = some (.int .i64 ((rd_T38 l0 x7_2).f0)) ∧ w'.cell? ⟨(ad159.add ((x7_2).toNat * 5)).block, (ad159.add ((x7_2).toNat * 5)).off + 1, none⟩ = some (.int .u16 ((rd_T38 l0 x7_2).f1)) ∧ w'.cell? ⟨(ad159.add ((x7_2).toNat * 5)).block, (ad159.add ((x7_2).toNat * 5)).off + 2, none⟩ = some (.int .u32 ((rd_T38 l0 x7_2).f2)) ∧ w'.cell? ⟨(ad159.add ((x7_2).toNat * 5)).block, (ad159.add ((x7_2).toNat * 5)).off + 3, none⟩ = some (.int .i64 ((rd_T38 l0 x7_2).f3)) ∧ w'.cell? ⟨(ad159.add ((x7_2).toNat * 5)).block, (ad159.add ((x7_2).toNat * 5)).off + 4, none⟩ = some (.int .i64 ((rd_T38 l0 x7_2).f4)) ∧ w'.cell? (ad159.add ((x7_2).toNat * 5)) = some (.int .i64 ((rd_T38 l0 x7_2).f0)) ∧ w'.cell? ⟨(ad159.add ((x7_2).toNat * 5)).block, (ad159.add ((x7_2).toNat * 5)).off + 1, none⟩ = some (.int .u16 ((rd_T38 l0 x7_2).f1)) ∧ w'.cell? ⟨(ad159.add ((x7_2).toNat * 5)).block, (ad159.add ((x7_2).toNat * 5)).off + 2, none⟩ = some (.int .u32 ((rd_T38 l0 x7_2).f2)) ∧ w'.cell? ⟨(ad159.add ((x7_2).toNat * 5)).block, (ad159.add ((x7_2).toNat * 5)).off + 3, none⟩ = some (.int .i64 ((rd_T38 l0 x7_2).f3)) ∧ w'.cell? ⟨(ad159.add ((x7_2).toNat * 5)).block, (ad159.add ((x7_2).toNat * 5)).off + 4, none⟩ = some (.int .i64 ((rd_T38 l0 x7_2).f4)) ∧ w'.cell? (ad165.add (x7_2).toNat) = some (.int .i64 (rd t154 x7_2)) ∧ w'.cell? (ad165.add (t160).toNat) = some (.int .i64 (rd t154 t160)) ∧ w'.cell? (ad165.add (t163).toNat) = some (.int .i64 (rd t154 t163))) (ds := []) #[false, false, false, false, false, false, false, false, false, false, false, false, false, false, false, false, false, false, false, false, false, false, false, false, false, false, false, false, false, false] (by kernel_rfl) rfl rfl ⟨((HB.out.cell (World.block_lt_of_cell? w _ hw159_0)).trans hw159_0), ((HB.out.cell (World.block_lt_of_cell? w _ hw159_1)).trans hw159_1), ((HB.out.cell (World.block_lt_of_cell? w _ hw159_2)).trans hw159_2), ((HB.out.cell (World.block_lt_of_cell? w _ hw159_3)).trans hw159_3), ((HB.out.cell (World.block_lt_of_cell? w _ hw159_4)).trans hw159_4), ((HB.out.cell (World.block_lt_of_cell? w _ hw162_0)).trans hw162_0), ((HB.out.cell (World.block_lt_of_cell? w _ hw162_1)).trans hw162_1), ((HB.out.cell (World.block_lt_of_cell? w _ hw162_2)).trans hw162_2), ((HB.out.cell (World.block_lt_of_cell? w _ hw162_3)).trans hw162_3), ((HB.out.cell (World.block_lt_of_cell? w _ hw162_4)).trans hw162_4), hx165_0, hx161_0, hx164_0⟩ (fun hHeld => ?_); refine with_tabW tamisref23_Long.tab11 tamisref23_Long.bits11 (fun HT_ HW_ => ?_)
                                          generalize wc.drew = w29 at HO_3 HO_5 HB hx159_0 hx159_1 hx159_2 hx159_3 hx159_4 hx161_0 hx162_0 hx162_1 hx162_2 hx162_3 hx162_4 hx164_0 hx165_0 hHeld ⊢
                                          refine pure_ (i := 0) (N := some 39) (v := ?_) (a' := ?_) #[true, false, false, false, false, false, false, false, false, false, false, false, false, false, false, false, false, false, false, false, false, false, false, false, false, false, false, false, false, false] rfl rfl (any_of HT_.out (by kernel_rfl)) (fun _ _ _ h => h) (Or.inl ⟨by rfl, ?_⟩) ?_ ?_
                                          rotate_left
                                          · intro w'
                                            go_simp
                                            with_reducible rfl
                                          rotate_left
                                          · simp only [Act.put, List.setIfInBounds_toArray, List.set_cons_zero, List.set_cons_succ, i64_w, i32_w]
                                            rfl
                                          refine pure_ (i := 1) (N := some 40) (v := ?_) (a' := ?_) #[true, true, false, false, false, false, false, false, false, false, false, false, false, false, false, false, false, false, false, false, false, false, false, false, false, false, false, false, false, false] rfl rfl (any_of HT_.out (by kernel_rfl)) (fun _ _ _ h => h) (Or.inl ⟨by rfl, ?_⟩) ?_ ?_
                                          rotate_left
                                          · intro w'
                                            go_simp
                                            with_reducible rfl
                                          rotate_left
                                          · simp only [Act.put, List.setIfInBounds_toArray, List.set_cons_zero, List.set_cons_succ, i64_w, i32_w]
                                            rfl
                                          refine pure_ (i := 2) (N := some 41) (v := ?_) (a' := ?_) #[true, true, true, false, false, false, false, false, false, false, false, false, false, false, false, false, false, false, false, false, false, false, false, false, false, false, false, false, false, false] rfl rfl (any_of HT_.out (by kernel_rfl)) (fun _ _ _ h => h) (Or.inl ⟨by rfl, ?_⟩) ?_ ?_
                                          rotate_left
                                          · intro w'
                                            go_simp
                                            with_reducible rfl
                                          rotate_left
                                          · simp only [Act.put, List.setIfInBounds_toArray, List.set_cons_zero, List.set_cons_succ, i64_w, i32_w]
                                            rfl
                                          refine pure_ (i := 3) (N := some 42) (v := ?_) (a' := ?_) #[true, true, true, true, false, false, false, false, false, false, false, false, false, false, false, false, false, false, false, false, false, false, false, false, false, false, false, false, false, false] rfl rfl (any_of HT_.out (by kernel_rfl)) (fun _ _ _ h => h) (Or.inl ⟨by rfl, ?_⟩) ?_ ?_
                                          rotate_left
                                          · intro w'
                                            go_simp
                                            with_reducible rfl
                                          rotate_left
                                          · simp only [Act.put, List.setIfInBounds_toArray, List.set_cons_zero, List.set_cons_succ, i64_w, i32_w]
                                            rfl
                                          refine pure_ (i := 4) (N := some 43) (v := ?_) (a' := ?_) #[true, true, true, true, true, false, false, false, false, false, false, false, false, false, false, false, false, false, false, false, false, false, false, false, false, false, false, false, false, false] rfl rfl (any_of HT_.out (by kernel_rfl)) (fun _ _ _ h => h) (Or.inl ⟨by rfl, ?_⟩) ?_ ?_
                                          rotate_left
                                          · intro w'
                                            go_simp
                                            with_reducible rfl
                                          rotate_left
                                          · simp only [Act.put, List.setIfInBounds_toArray, List.set_cons_zero, List.set_cons_succ, i64_w, i32_w]
                                            rfl
                                          refine pure_ (i := 5) (N := some 44) (v := ?_) (a' := ?_) #[true, true, true, true, true, true, false, false, false, false, false, false, false, false, false, false, false, false, false, false, false, false, false, false, false, false, false, false, false, false] rfl rfl (any_of HT_.out (by kernel_rfl)) (fun _ _ _ h => h) (Or.inl ⟨by rfl, ?_⟩) ?_ ?_
                                          rotate_left
                                          · intro w'
                                            go_simp
                                            with_reducible rfl
                                          rotate_left
                                          · simp only [Act.put, List.setIfInBounds_toArray, List.set_cons_zero, List.set_cons_succ, i64_w, i32_w]
                                            rfl
                                          refine pure_ (i := 7) (N := some 46) (v := ?_) (a' := ?_) #[true, true, true, true, true, true, false, true, false, false, false, false, false, false, false, false, false, false, false, false, false, false, false, false, false, false, false, false, false, false] rfl rfl (any_of HT_.out (by kernel_rfl)) (fun _ _ _ h => h) (Or.inl ⟨by rfl, ?_⟩) ?_ ?_
                                          rotate_left
                                          · intro w'
                                            go_simp
                                            with_reducible rfl
                                          rotate_left
                                          · simp only [Act.put, List.setIfInBounds_toArray, List.set_cons_zero, List.set_cons_succ, i64_w, i32_w]
                                            rfl
                                          refine pure_ (i := 11) (N := some 50) (v := ?_) (a' := ?_) #[true, true, true, true, true, true, false, true, false, false, false, true, false, false, false, false, false, false, false, false, false, false, false, false, false, false, false, false, false, false] rfl rfl (any_of HT_.out (by kernel_rfl)) (fun _ _ _ h => h) (Or.inl ⟨by rfl, ?_⟩) ?_ ?_
                                          rotate_left
                                          · intro w'
                                            go_simp
                                            with_reducible rfl
                                          rotate_left
                                          · simp only [Act.put, List.setIfInBounds_toArray, List.set_cons_zero, List.set_cons_succ, i64_w, i32_w]
                                            rfl
                                          refine pure_ (i := 12) (N := some 51) (v := ?_) (a' := ?_) #[true, true, true, true, true, true, false, true, false, false, false, true, true, false, false, false, false, false, false, false, false, false, false, false, false, false, false, false, false, false] rfl rfl (any_of HT_.out (by kernel_rfl)) (fun _ _ _ h => h) (Or.inl ⟨by rfl, ?_⟩) ?_ ?_
                                          rotate_left
                                          · intro w'
                                            go_simp
                                            with_reducible rfl
                                          rotate_left
                                          · simp only [Act.put, List.setIfInBounds_toArray, List.set_cons_zero, List.set_cons_succ, i64_w, i32_w]
                                            rfl
                                          refine pure_ (i := 13) (N := some 52) (v := ?_) (a' := ?_) #[true, true, true, true, true, true, false, true, false, false, false, true, true, true, false, false, false, false, false, false, false, false, false, false, false, false, false, false, false, false] rfl rfl (any_of HT_.out (by kernel_rfl)) (fun _ _ _ h => h) (Or.inl ⟨by rfl, ?_⟩) ?_ ?_
                                          rotate_left
                                          · intro w'
                                            go_simp
                                            with_reducible rfl
                                          rotate_left
                                          · simp only [Act.put, List.setIfInBounds_toArray, List.set_cons_zero, List.set_cons_succ, i64_w, i32_w]
                                            rfl
                                          refine pure_ (i := 14) (N := some 53) (v := ?_) (a' := ?_) #[true, true, true, true, true, true, false, true, false, false, false, true, true, true, true, false, false, false, false, false, false, false, false, false, false, false, false, false, false, false] rfl rfl (any_of HT_.out (by kernel_rfl)) (fun _ _ _ h => h) (Or.inl ⟨by rfl, ?_⟩) ?_ ?_
                                          rotate_left
                                          · intro w'
                                            go_simp
                                            with_reducible rfl
                                          rotate_left
                                          · simp only [Act.put, List.setIfInBounds_toArray, List.set_cons_zero, List.set_cons_succ, i64_w, i32_w]
                                            rfl
                                          refine pure_ (i := 15) (N := some 54) (v := ?_) (a' := ?_) #[true, true, true, true, true, true, false, true, false, false, false, true, true, true, true, true, false, false, false, false, false, false, false, false, false, false, false, false, false, false] rfl rfl (any_of HT_.out (by kernel_rfl)) (fun _ _ _ h => h) (Or.inl ⟨by rfl, ?_⟩) ?_ ?_
                                          rotate_left
                                          · intro w'
                                            go_simp
                                            with_reducible rfl
                                          rotate_left
                                          · simp only [Act.put, List.setIfInBounds_toArray, List.set_cons_zero, List.set_cons_succ, i64_w, i32_w]
                                            rfl
                                          refine pure_ (i := 16) (N := some 55) (v := ?_) (a' := ?_) #[true, true, true, true, true, true, false, true, false, false, false, true, true, true, true, true, true, false, false, false, false, false, false, false, false, false, false, false, false, false] rfl rfl (any_of HT_.out (by kernel_rfl)) (fun _ _ _ h => h) (Or.inl ⟨by rfl, ?_⟩) ?_ ?_
                                          rotate_left
                                          · intro w'
                                            go_simp
                                            with_reducible rfl
                                          rotate_left
                                          · simp only [Act.put, List.setIfInBounds_toArray, List.set_cons_zero, List.set_cons_succ, i64_w, i32_w]
                                            rfl
                                          refine pure_ (i := 18) (N := some 57) (v := ?_) (a' := ?_) #[true, true, true, true, true, true, false, true, false, false, false, true, true, true, true, true, true, false, true, false, false, false, false, false, false, false, false, false, false, false] rfl rfl (any_of HT_.out (by kernel_rfl)) (fun _ _ _ h => h) (Or.inl ⟨by rfl, ?_⟩) ?_ ?_
                                          rotate_left
                                          · intro w'
                                            go_simp
                                            with_reducible rfl
                                          rotate_left
                                          · simp only [Act.put, List.setIfInBounds_toArray, List.set_cons_zero, List.set_cons_succ, i64_w, i32_w]
                                            rfl
                                          refine pure_ (i := 23) (N := some 62) (v := ?_) (a' := ?_) #[true, true, true, true, true, true, false, true, false, false, false, true, true, true, true, true, true, false, true, false, false, false, false, true, false, false, false, false, false, false] rfl rfl (any_of HT_.out (by kernel_rfl)) (fun _ _ _ h => h) (Or.inl ⟨by rfl, ?_⟩) ?_ ?_
                                          rotate_left
                                          · intro w'
                                            go_simp
                                            with_reducible rfl
                                          rotate_left
                                          · simp only [Act.put, List.setIfInBounds_toArray, List.set_cons_zero, List.set_cons_succ, i64_w, i32_w]
                                            rfl
                                          refine pure_ (i := 24) (N := some 63) (v := ?_) (a' := ?_) #[true, true, true, true, true, true, false, true, false, false, false, true, true, true, true, true, true, false, true, false, false, false, false, true, true, false, false, false, false, false] rfl rfl (any_of HT_.out (by kernel_rfl)) (fun _ _ _ h => h) (Or.inl ⟨by rfl, ?_⟩) ?_ ?_
                                          rotate_left
                                          · intro w'
                                            go_simp
                                            with_reducible rfl
                                          rotate_left
                                          · simp only [Act.put, List.setIfInBounds_toArray, List.set_cons_zero, List.set_cons_succ, i64_w, i32_w]
                                            rfl
                                          refine pure_ (i := 25) (N := some 64) (v := ?_) (a' := ?_) #[true, true, true, true, true, true, false, true, false, false, false, true, true, true, true, true, true, false, true, false, false, false, false, true, true, true, false, false, false, false] rfl rfl (any_of HT_.out (by kernel_rfl)) (fun _ _ _ h => h) (Or.inl ⟨by rfl, ?_⟩) ?_ ?_
                                          rotate_left
                                          · intro w'
                                            go_simp
                                            with_reducible rfl
                                          rotate_left
                                          · simp only [Act.put, List.setIfInBounds_toArray, List.set_cons_zero, List.set_cons_succ, i64_w, i32_w]
                                            rfl
                                          refine take_ (i := 6) (N := some 45) (v := ?_) (a' := ?_) #[true, true, true, true, true, true, true, true, false, false, false, true, true, true, true, true, true, false, true, false, false, false, false, true, true, true, false, false, false, false] rfl rfl (take_ofW HT_.out HW_.out (by kernel_rfl)) (fun _ _ _ h => h) (Or.inl ⟨by rfl, ?_⟩) hHeld ?_ ?_
                                          rotate_left
                                          · rintro w' ⟨s0, s1, s2, s3, s4, s5, s6, s7, s8, s9, s10, s11, s12⟩
                                            go_simp
                                            with_reducible rfl
                                          rotate_left
                                          · simp only [Act.put, List.setIfInBounds_toArray, List.set_cons_zero, List.set_cons_succ, i64_w, i32_w]
                                            rfl
                                          refine take_ (i := 17) (N := some 56) (v := ?_) (a' := ?_) #[true, true, true, true, true, true, true, true, false, false, false, true, true, true, true, true, true, true, true, false, false, false, false, true, true, true, false, false, false, false] rfl rfl (take_ofW HT_.out HW_.out (by kernel_rfl)) (fun _ _ _ h => h) (Or.inl ⟨by rfl, ?_⟩) hHeld ?_ ?_
                                          rotate_left
                                          · rintro w' ⟨s0, s1, s2, s3, s4, s5, s6, s7, s8, s9, s10, s11, s12⟩
                                            go_simp
                                            with_reducible rfl
                                          rotate_left
                                          · simp only [Act.put, List.setIfInBounds_toArray, List.set_cons_zero, List.set_cons_succ, i64_w, i32_w]
                                            rfl
                                          refine take_ (i := 26) (N := some 65) (v := ?_) (a' := ?_) #[true, true, true, true, true, true, true, true, false, false, false, true, true, true, true, true, true, true, true, false, false, false, false, true, true, true, true, false, false, false] rfl rfl (take_ofW HT_.out HW_.out (by kernel_rfl)) (fun _ _ _ h => h) (Or.inl ⟨by rfl, ?_⟩) hHeld ?_ ?_
                                          rotate_left
                                          · rintro w' ⟨s0, s1, s2, s3, s4, s5, s6, s7, s8, s9, s10, s11, s12⟩
                                            go_simp
                                            with_reducible rfl
                                          rotate_left
                                          · simp only [Act.put, List.setIfInBounds_toArray, List.set_cons_zero, List.set_cons_succ, i64_w, i32_w]
                                            rfl
                                          refine one_ (i := 8) (N := some 47) #[true, true, true, true, true, true, true, true, true, false, false, true, true, true, true, true, true, true, true, false, false, false, false, true, true, true, true, false, false, false] rfl rfl (one_of HT_.out (by kernel_rfl)) (by decide) (fun K hK => ?_)
                                          refine goes_ Try.func58 (by kernel_rfl) rfl #[.slice (some ad159) l0.length c0, .int .i64 ((rd_T38 l0 x7_2).f3), .int .i64 x7_2] (by rfl) rfl rfl (by (try simp only [List.map_toArray, List.map_cons, List.map_nil]); first | done | rfl | (simp only [List.length_drop, List.length_take]; rfl)) ?_
                                          with_reducible refine (tamisref23_Marked.calls kj10 _ _ l0 ((rd_T38 l0 x7_2).f3) x7_2 t160 _ ?side1 ?side2 A18.out).mono ?_
                                          (case side1 => repeat (first | exact (Kd.C_below HR0.out HB.out) | (with_reducible refine Kd.C_alloc ?_ _) | (with_reducible refine Kd.C_drewN ?_ _) | (with_reducible refine Kd.C_drew ?_)))
                                          (case side2 => exact HC0.out)
                                          rintro e w' ⟨rfl, ⟨nd, rfl⟩⟩
                                          refine ⟨_, rfl, ?_⟩
                                          refine hK.out _ _ ⟨((HB.out.cell (World.block_lt_of_cell? w _ hw159_0)).trans hw159_0), ((HB.out.cell (World.block_lt_of_cell? w _ hw159_1)).trans hw159_1), ((HB.out.cell (World.block_lt_of_cell? w _ hw159_2)).trans hw159_2), ((HB.out.cell (World.block_lt_of_cell? w _ hw159_3)).trans hw159_3), ((HB.out.cell (World.block_lt_of_cell? w _ hw159_4)).trans hw159_4), ((HB.out.cell (World.block_lt_of_cell? w _ hw162_0)).trans hw162_0), ((HB.out.cell (World.block_lt_of_cell? w _ hw162_1)).trans hw162_1), ((HB.out.cell (World.block_lt_of_cell? w _ hw162_2)).trans hw162_2), ((HB.out.cell (World.block_lt_of_cell? w _ hw162_3)).trans hw162_3), ((HB.out.cell (World.block_lt_of_cell? w _ hw162_4)).trans hw162_4), hHeld.2.2.2.2.2.2.2.2.2.2.1, hHeld.2.2.2.2.2.2.2.2.2.2.2.1, hHeld.2.2.2.2.2.2.2.2.2.2.2.2⟩ (fun hHeld => ?_)
                                          clear hK K
                                          refine norm_ (a' := ?_) ?_ ?_
                                          rotate_left
                                          · show Act.put _ (some 47) _ = _
                                            simp only [Act.put, List.setIfInBounds_toArray, List.set_cons_zero, List.set_cons_succ, i64_w, i32_w]
                                            rfl
                                          refine pure_ (i := 9) (N := some 48) (v := ?_) (a' := ?_) #[true, true, true, true, true, true, true, true, true, true, false, true, true, true, true, true, true, true, true, false, false, false, false, true, true, true, true, false, false, false] rfl rfl (any_of HT_.out (by kernel_rfl)) (fun _ _ _ h => h) (Or.inl ⟨by rfl, ?_⟩) ?_ ?_
                                          rotate_left
                                          · intro w'
                                            go_simp
                                            with_reducible rfl
                                          rotate_left
                                          · simp only [Act.put, List.setIfInBounds_toArray, List.set_cons_zero, List.set_cons_succ, i64_w, i32_w]
                                            rfl
                                          refine take_ (i := 10) (N := some 49) (v := ?_) (a' := ?_) #[true, true, true, true, true, true, true, true, true, true, true, true, true, true, true, true, true, true, true, false, false, false, false, true, true, true, true, false, false, false] rfl rfl (take_ofW HT_.out HW_.out (by kernel_rfl)) (fun _ _ _ h => h) (Or.inl ⟨by rfl, ?_⟩) hHeld ?_ ?_
                                          rotate_left
                                          · rintro w' ⟨s0, s1, s2, s3, s4, s5, s6, s7, s8, s9, s10, s11, s12⟩
                                            go_simp
                                            with_reducible rfl
                                          rotate_left
                                          · simp only [Act.put, List.setIfInBounds_toArray, List.set_cons_zero, List.set_cons_succ, i64_w, i32_w]
                                            rfl
                                          refine one_ (i := 19) (N := some 58) #[true, true, true, true, true, true, true, true, true, true, true, true, true, true, true, true, true, true, true, true, false, false, false, true, true, true, true, false, false, false] rfl rfl (one_of HT_.out (by kernel_rfl)) (by decide) (fun K hK => ?_)
                                          refine goes_ Try.func58 (by kernel_rfl) rfl #[.slice (some ad159) l0.length c0, .int .i64 ((rd_T38 l0 x7_2).f4), .int .i64 x7_2] (by rfl) rfl rfl (by (try simp only [List.map_toArray, List.map_cons, List.map_nil]); first | done | rfl | (simp only [List.length_drop, List.length_take]; rfl)) ?_
                                          with_reducible refine (tamisref23_Marked.calls kj10 _ _ l0 ((rd_T38 l0 x7_2).f4) x7_2 t163 _ ?side1 ?side2 A21.out).mono ?_
                                          (case side1 => repeat (first | exact (Kd.C_below HR0.out (by repeat (first | (with_reducible first | exact HB.out | apply below_alloc | apply pw_below_drewN | apply below_drew1) | exact HB.out))) | (with_reducible refine Kd.C_alloc ?_ _) | (with_reducible refine Kd.C_drewN ?_ _) | (with_reducible refine Kd.C_drew ?_)))
                                          (case side2 => exact HC0.out)
                                          rintro e w' ⟨rfl, ⟨nd, rfl⟩⟩
                                          refine ⟨_, rfl, ?_⟩
                                          refine hK.out _ _ ⟨((HB.out.cell (World.block_lt_of_cell? w _ hw159_0)).trans hw159_0), ((HB.out.cell (World.block_lt_of_cell? w _ hw159_1)).trans hw159_1), ((HB.out.cell (World.block_lt_of_cell? w _ hw159_2)).trans hw159_2), ((HB.out.cell (World.block_lt_of_cell? w _ hw159_3)).trans hw159_3), ((HB.out.cell (World.block_lt_of_cell? w _ hw159_4)).trans hw159_4), ((HB.out.cell (World.block_lt_of_cell? w _ hw162_0)).trans hw162_0), ((HB.out.cell (World.block_lt_of_cell? w _ hw162_1)).trans hw162_1), ((HB.out.cell (World.block_lt_of_cell? w _ hw162_2)).trans hw162_2), ((HB.out.cell (World.block_lt_of_cell? w _ hw162_3)).trans hw162_3), ((HB.out.cell (World.block_lt_of_cell? w _ hw162_4)).trans hw162_4), hHeld.2.2.2.2.2.2.2.2.2.2.1, hHeld.2.2.2.2.2.2.2.2.2.2.2.1, hHeld.2.2.2.2.2.2.2.2.2.2.2.2⟩ (fun hHeld => ?_)
                                          clear hK K
                                          refine norm_ (a' := ?_) ?_ ?_
                                          rotate_left
                                          · show Act.put _ (some 58) _ = _
                                            simp only [Act.put, List.setIfInBounds_toArray, List.set_cons_zero, List.set_cons_succ, i64_w, i32_w]
                                            rfl
                                          refine pure_ (i := 20) (N := some 59) (v := ?_) (a' := ?_) #[true, true, true, true, true, true, true, true, true, true, true, true, true, true, true, true, true, true, true, true, true, false, false, true, true, true, true, false, false, false] rfl rfl (any_of HT_.out (by kernel_rfl)) (fun _ _ _ h => h) (Or.inl ⟨by rfl, ?_⟩) ?_ ?_
                                          rotate_left
                                          · intro w'
                                            go_simp
                                            with_reducible rfl
                                          rotate_left
                                          · simp only [Act.put, List.setIfInBounds_toArray, List.set_cons_zero, List.set_cons_succ, i64_w, i32_w]
                                            rfl
                                          refine take_ (i := 21) (N := some 60) (v := ?_) (a' := ?_) #[true, true, true, true, true, true, true, true, true, true, true, true, true, true, true, true, true, true, true, true, true, true, false, true, true, true, true, false, false, false] rfl rfl (take_ofW HT_.out HW_.out (by kernel_rfl)) (fun _ _ _ h => h) (Or.inl ⟨by rfl, ?_⟩) hHeld ?_ ?_
                                          rotate_left
                                          · rintro w' ⟨s0, s1, s2, s3, s4, s5, s6, s7, s8, s9, s10, s11, s12⟩
                                            go_simp
                                            with_reducible rfl
                                          rotate_left
                                          · simp only [Act.put, List.setIfInBounds_toArray, List.set_cons_zero, List.set_cons_succ, i64_w, i32_w]
                                            rfl
                                          refine pure_ (i := 22) (N := some 61) (v := ?_) (a' := ?_) #[true, true, true, true, true, true, true, true, true, true, true, true, true, true, true, true, true, true, true, true, true, true, true, true, true, true, true, false, false, false] rfl rfl (any_of HT_.out (by kernel_rfl)) (fun _ _ _ h => h) (Or.inl ⟨by rfl, ?_⟩) ?_ ?_
                                          rotate_left
                                          · intro w'
                                            go_simp
                                            with_reducible rfl
                                          rotate_left
                                          · simp only [Act.put, List.setIfInBounds_toArray, List.set_cons_zero, List.set_cons_succ, i64_w, i32_w]
                                            rfl
                                          refine pure_ (i := 27) (N := some 66) (v := ?_) (a' := ?_) #[true, true, true, true, true, true, true, true, true, true, true, true, true, true, true, true, true, true, true, true, true, true, true, true, true, true, true, true, false, false] rfl rfl (any_of HT_.out (by kernel_rfl)) (fun _ _ _ h => h) (Or.inl ⟨by rfl, ?_⟩) ?_ ?_
                                          rotate_left
                                          · intro w'
                                            go_simp
                                            with_reducible rfl
                                          rotate_left
                                          · simp only [Act.put, List.setIfInBounds_toArray, List.set_cons_zero, List.set_cons_succ, i64_w, i32_w]
                                            rfl
                                          refine pure_ (i := 28) (N := some 67) (v := ?_) (a' := ?_) #[true, true, true, true, true, true, true, true, true, true, true, true, true, true, true, true, true, true, true, true, true, true, true, true, true, true, true, true, true, false] rfl rfl (any_of HT_.out (by kernel_rfl)) (fun _ _ _ h => h) (Or.inl ⟨by rfl, ?_⟩) ?_ ?_
                                          rotate_left
                                          · intro w'
                                            go_simp
                                            with_reducible rfl
                                          rotate_left
                                          · simp only [Act.put, List.setIfInBounds_toArray, List.set_cons_zero, List.set_cons_succ, i64_w, i32_w]
                                            rfl
                                          refine pure_ (i := 29) (N := some 8) (v := ?_) (a' := ?_) #[true, true, true, true, true, true, true, true, true, true, true, true, true, true, true, true, true, true, true, true, true, true, true, true, true, true, true, true, true, true] rfl rfl (any_of HT_.out (by kernel_rfl)) (fun _ _ _ h => h) (Or.inl ⟨by rfl, ?_⟩) ?_ ?_
                                          rotate_left
                                          · intro w'
                                            go_simp
                                            with_reducible rfl
                                          rotate_left
                                          · simp only [Act.put, List.setIfInBounds_toArray, List.set_cons_zero, List.set_cons_succ, i64_w, i32_w]
                                            rfl
                                          refine done_ (done_of HT_.out (by kernel_rfl)) ?_
                                          have p28 : 0 ≤ (x7_2 : Int) := of_decide_eq_true (by first | (with_reducible assumption) | assumption)
                                          have q28 : (x7_2 : Int) < ((x3_2.length : Int) : Int) := of_decide_eq_true (by first | (with_reducible assumption) | assumption)
                                          obtain ⟨go28, co28, eo28, gb28, gl28, cl28, HG28⟩ := Kd.R_form HO_3.out (by omega)
                                          (first | cases eo28 | (injection eo28 with ea_ en_ ec_; (first | subst ea_ | (injection ea_ with ea_; subst ea_)); subst ec_; clear en_))
                                          generalize hw29d : World.drewN (World.drewN w29 _) _ = w29d
                                          have n0_ : Aside0 (Kd.R Kd.bool 4 w29d w.heap.size (fun _ => True) (.slice (some ⟨go28, 0, none⟩) x3_2.length co8) x3_2) := ⟨by rw [← hw29d]; exact Kd.R_drewN (Kd.R_drewN HO_3.out _) _⟩
                                          have n1_ : Aside0 (Kd.R (Kd.int .i64) 3 w29d w.heap.size (fun _ => True) (.slice (some ad165) t154.length co30) t154) := ⟨by rw [← hw29d]; exact Kd.R_drewN (Kd.R_drewN HO_5.out _) _⟩
                                          have n2_ : Aside0 (Below w.heap.size w w29d) := ⟨by rw [← hw29d]; exact pw_below_drewN (pw_below_drewN HB.out _) _⟩
                                          clear HO_3 HO_5 HB
                                          have HO_3 := n0_
                                          have HO_5 := n1_
                                          have HB := n2_
                                          clear n0_ n1_ n2_
                                          have GB28 := Aside0.mk gb28
                                          have GG28 := Aside0.mk HG28
                                          clear gb28 gl28 HG28
                                          obtain ⟨hx28_0, hf28_0⟩ := Kd.R_celln false HO_3.out (x7_2 : Int) p28 q28
                                          replace p28 := eq_true p28
                                          replace q28 := eq_true q28
                                          obtain ⟨hy31_, hz31_⟩ := Kd.R_celln false HO_3.out (x7_2 : Int) (of_decide_eq_true (by first | (with_reducible assumption) | assumption)) (of_decide_eq_true (by first | (with_reducible assumption) | assumption))
                                          have HP31 := Kd.R_putg HO_3.out (x7_2 : Int) true
                                          try go_wp2_with (first | ((with_reducible refine gate_store (t := 4) (p := 72) rfl ?_); refine store_event (t := 4) (p := 72) (v := ?vo_w32) (w1 := (w29d.setCell ⟨go28, (x7_2 : Int).toNat, none⟩ (.bool true))) ?hg ?ho ?hn ?hr ?_; (case ho => rfl); (case hg => rfl); (case hn => rfl); (case hr => first | (go_simp; done) | (go_simp; rfl)); intro w32 hw; have hg : w29d.grownBy w32 (some go28) := (by rw [hw]; exact HP31.2); have hp_ : Kd.R Kd.bool 4 w32 w.heap.size (fun _ => True) (.slice (some ⟨go28, 0, none⟩) x3_2.length co8) y166 := (by rw [hw, Ny166.out]; exact HP31.1); clear HP31; have n0_ := Aside0.mk (hp_); have n1_ := Aside0.mk (Kd.R_over' (v := (.slice (some ⟨go28, 0, none⟩) x3_2.length co8)) (by (with_reducible repeat (first | apply Kd.R_alloc | apply Kd.R_drewN | apply Kd.R_drew)); exact HO_5.out) (Kd.R_typed HO_3.out) (by decide) hg); have n2_ := Aside0.mk ((by rw [hw]; exact below_set (HB.out) GB28.out : Below w.heap.size w w32)); clear HO_3; clear HO_5; clear HB; have HO_3 := n0_; have HO_5 := n1_; have HB := n2_; clear n0_ n1_ n2_; clear hg hw hp_))
                                          (try simp only [← hl3_2])
                                          go_roundg kj10
                                          case measure => have := HK1.out; have := HK2.out; have := HJ10.out; omega
                                          case rel => exact ⟨(y166), (true), (wrap64 (x7_2 + 1)), (by first | rfl | (simp; done) | (simp [*]; done)), (by first | rfl | (simp; done) | (simp [*]; done)), H', ⟨by have := HK1.out; have := HK2.out; have := HJ10.out; omega⟩, ⟨by (try simp only [hl3_2]); (with_reducible repeat (first | apply Kd.R_alloc | apply Kd.R_drewN | apply Kd.R_drew)); exact HO_3.out⟩, ⟨by (try simp only [hl3_2]); (with_reducible repeat (first | apply Kd.R_alloc | apply Kd.R_drewN | apply Kd.R_drew)); exact HO_5.out⟩, ⟨by repeat (first | (with_reducible first | exact HB.out | apply below_alloc | apply pw_below_drewN | apply below_drew1) | exact HB.out)⟩⟩
                                        · rw [if_neg c27] at H
                                          exact absurd H (by simp)
                                      · rw [if_neg c26] at H
                                        have c26b0 : decide (255 < (wrap64 ((wrap64 ((ji24) - (rd t154 x7_2))) - 1))) = false := decide_eq_false c26
                                        clear c26
                                        have H' := Aside0.mk H
                                        clear H
                                        try go_wp2
                                        have n0_ := Aside0.mk (Kd.R_drew HO_3.out)
                                        have n1_ := Aside0.mk (Kd.R_drew HO_5.out)
                                        have n2_ := Aside0.mk (below_drew1 HB.out)
                                        clear HO_3
                                        clear HO_5
                                        clear HB
                                        have HO_3 := n0_
                                        have HO_5 := n1_
                                        have HB := n2_
                                        clear n0_ n1_ n2_
                                        have p159 : 0 ≤ (x7_2 : Int) := of_decide_eq_true (by first | (with_reducible assumption) | assumption)
                                        have q159 : x7_2 < (l0.length : Int) := of_decide_eq_true (by first | (with_reducible assumption) | assumption)
                                        obtain ⟨ad159, e159, hx159_0, hx159_1, hx159_2, hx159_3, hx159_4⟩ := at_T38 HR0.out x7_2 p159 q159
                                        have hw159_4 := hx159_4
                                        have hw159_3 := hx159_3
                                        have hw159_2 := hx159_2
                                        have hw159_1 := hx159_1
                                        have hw159_0 := hx159_0
                                        cases e159
                                        replace hx159_0 := (HB.out.cell (World.block_lt_of_cell? w _ hx159_0)).trans hx159_0
                                        replace hx159_1 := (HB.out.cell (World.block_lt_of_cell? w _ hx159_1)).trans hx159_1
                                        replace hx159_2 := (HB.out.cell (World.block_lt_of_cell? w _ hx159_2)).trans hx159_2
                                        replace hx159_3 := (HB.out.cell (World.block_lt_of_cell? w _ hx159_3)).trans hx159_3
                                        replace hx159_4 := (HB.out.cell (World.block_lt_of_cell? w _ hx159_4)).trans hx159_4
                                        replace p159 := eq_true p159
                                        replace q159 := eq_true q159
                                        have p162 : 0 ≤ (x7_2 : Int) := of_decide_eq_true (by first | (with_reducible assumption) | assumption)
                                        have q162 : x7_2 < (l0.length : Int) := of_decide_eq_true (by first | (with_reducible assumption) | assumption)
                                        obtain ⟨ad162, e162, hx162_0, hx162_1, hx162_2, hx162_3, hx162_4⟩ := at_T38 HR0.out x7_2 p162 q162
                                        have hw162_4 := hx162_4
                                        have hw162_3 := hx162_3
                                        have hw162_2 := hx162_2
                                        have hw162_1 := hx162_1
                                        have hw162_0 := hx162_0
                                        obtain rfl : ad159 = ad162 := (by injection e162)
                                        replace hx162_0 := (HB.out.cell (World.block_lt_of_cell? w _ hx162_0)).trans hx162_0
                                        replace hx162_1 := (HB.out.cell (World.block_lt_of_cell? w _ hx162_1)).trans hx162_1
                                        replace hx162_2 := (HB.out.cell (World.block_lt_of_cell? w _ hx162_2)).trans hx162_2
                                        replace hx162_3 := (HB.out.cell (World.block_lt_of_cell? w _ hx162_3)).trans hx162_3
                                        replace hx162_4 := (HB.out.cell (World.block_lt_of_cell? w _ hx162_4)).trans hx162_4
                                        replace p162 := eq_true p162
                                        replace q162 := eq_true q162
                                        obtain ⟨Ao34, co34, eo34⟩ := Kd.R_slice HO_5.out
                                        (first | subst eo34 | (injection eo34 with f1_ f2_ f3_; have f4_ := f1_.symm; have f5_ := f3_.symm; clear f1_ f2_ f3_; subst f4_; subst f5_))
                                        have p165 : 0 ≤ (x7_2 : Int) := of_decide_eq_true (by first | (with_reducible assumption) | assumption)
                                        have q165 : x7_2 < (t154.length : Int) := of_decide_eq_true (by first | (with_reducible assumption) | assumption)
                                        obtain ⟨ad165, e165, hx165_0⟩ := Kd.at_int (Kd.R_reads' HO_5.out).2.2 x7_2 p165 q165
                                        cases e165
                                        replace p165 := eq_true p165
                                        replace q165 := eq_true q165
                                        have p161 : 0 ≤ (t160 : Int) := of_decide_eq_true (by first | (with_reducible assumption) | assumption)
                                        have q161 : t160 < (t154.length : Int) := of_decide_eq_true (by first | (with_reducible assumption) | assumption)
                                        obtain ⟨ad161, e161, hx161_0⟩ := Kd.at_int (Kd.R_reads' HO_5.out).2.2 t160 p161 q161
                                        obtain rfl : ad165 = ad161 := (by injection e161)
                                        replace p161 := eq_true p161
                                        replace q161 := eq_true q161
                                        have p164 : 0 ≤ (t163 : Int) := of_decide_eq_true (by first | (with_reducible assumption) | assumption)
                                        have q164 : t163 < (t154.length : Int) := of_decide_eq_true (by first | (with_reducible assumption) | assumption)
                                        obtain ⟨ad164, e164, hx164_0⟩ := Kd.at_int (Kd.R_reads' HO_5.out).2.2 t163 p164 q164
                                        obtain rfl : ad165 = ad164 := (by injection e164)
                                        replace p164 := eq_true p164
                                        replace q164 := eq_true q164
                                        refine start_ (n := 30) (S := fun w' => w'.cell? (ad159.add ((x7_2).toNat * 5)) = some (.int .i64 ((rd_T38 l0 x7_2).f0)) ∧ w'.cell? ⟨(ad159.add ((x7_2).toNat * 5)).block, (ad159.add ((x7_2).toNat * 5)).off + 1, none⟩ = some (.int .u16 ((rd_T38 l0 x7_2).f1)) ∧ w'.cell? ⟨(ad159.add ((x7_2).toNat * 5)).block, (ad159.add ((x7_2).toNat * 5)).off + 2, none⟩ = some (.int .u32 ((rd_T38 l0 x7_2).f2)) ∧ w'.cell? ⟨(ad159.add ((x7_2).toNat * 5)).block, (ad159.add ((x7_2).toNat * 5)).off + 3, none⟩ = some (.int .i64 ((rd_T38 l0 x7_2).f3)) ∧ w'.cell? ⟨(ad159.add ((x7_2).toNat * 5)).block, (ad159.add ((x7_2).toNat * 5)).off + 4, none⟩ = some (.int .i64 ((rd_T38 l0 x7_2).f4)) ∧ w'.cell? (ad159.add ((x7_2).toNat * 5)) = some (.int .i64 ((rd_T38 l0 x7_2).f0)) ∧ w'.cell? ⟨(ad159.add ((x7_2).toNat * 5)).block, (ad159.add ((x7_2).toNat * 5)).off + 1, none⟩ = some (.int .u16 ((rd_T38 l0 x7_2).f1)) ∧ w'.cell? ⟨(ad159.add ((x7_2).toNat * 5)).block, (ad159.add ((x7_2).toNat * 5)).off + 2, none⟩ = some (.int .u32 ((rd_T38 l0 x7_2).f2)) ∧ w'.cell? ⟨(ad159.add ((x7_2).toNat * 5)).block, (ad159.add ((x7_2).toNat * 5)).off + 3, none⟩ = some (.int .i64 ((rd_T38 l0 x7_2).f3)) ∧ w'.cell? ⟨(ad159.add ((x7_2).toNat * 5)).block, (ad159.add ((x7_2).toNat * 5)).off + 4, none⟩ = some (.int .i64 ((rd_T38 l0 x7_2).f4)) ∧ w'.cell? (ad165.add (x7_2).toNat) = some (.int .i64 (rd t154 x7_2)) ∧ w'.cell? (ad165.add (t160).toNat) = some (.int .i64 (rd t154 t160)) ∧ w'.cell? (ad165.add (t163).toNat) = some (.int .i64 (rd t154 t163))) (ds := []) #[false, false, false, false, false, false, false, false, false, false, false, false, false, false, false, false, false, false, false, false, false, false, false, false, false, false, false, false, false, false] (by kernel_rfl) rfl rfl ⟨((HB.out.cell (World.block_lt_of_cell? w _ hw159_0)).trans hw159_0), ((HB.out.cell (World.block_lt_of_cell? w _ hw159_1)).trans hw159_1), ((HB.out.cell (World.block_lt_of_cell? w _ hw159_2)).trans hw159_2), ((HB.out.cell (World.block_lt_of_cell? w _ hw159_3)).trans hw159_3), ((HB.out.cell (World.block_lt_of_cell? w _ hw159_4)).trans hw159_4), ((HB.out.cell (World.block_lt_of_cell? w _ hw162_0)).trans hw162_0), ((HB.out.cell (World.block_lt_of_cell? w _ hw162_1)).trans hw162_1), ((HB.out.cell (World.block_lt_of_cell? w _ hw162_2)).trans hw162_2), ((HB.out.cell (World.block_lt_of_cell? w _ hw162_3)).trans hw162_3), ((HB.out.cell (World.block_lt_of_cell? w _ hw162_4)).trans hw162_4), hx165_0, hx161_0, hx164_0⟩ (fun hHeld => ?_); refine with_tabW tamisref23_Long.tab11 tamisref23_Long.bits11 (fun HT_ HW_ => ?_)
                                        generalize wc.drew = w33 at HO_3 HO_5 HB hx159_0 hx159_1 hx159_2 hx159_3 hx159_4 hx161_0 hx162_0 hx162_1 hx162_2 hx162_3 hx162_4 hx164_0 hx165_0 hHeld ⊢
                                        refine pure_ (i := 0) (N := some 39) (v := ?_) (a' := ?_) #[true, false, false, false, false, false, false, false, false, false, false, false, false, false, false, false, false, false, false, false, false, false, false, false, false, false, false, false, false, false] rfl rfl (any_of HT_.out (by kernel_rfl)) (fun _ _ _ h => h) (Or.inl ⟨by rfl, ?_⟩) ?_ ?_
                                        rotate_left
                                        · intro w'
                                          go_simp
                                          with_reducible rfl
                                        rotate_left
                                        · simp only [Act.put, List.setIfInBounds_toArray, List.set_cons_zero, List.set_cons_succ, i64_w, i32_w]
                                          rfl
                                        refine pure_ (i := 1) (N := some 40) (v := ?_) (a' := ?_) #[true, true, false, false, false, false, false, false, false, false, false, false, false, false, false, false, false, false, false, false, false, false, false, false, false, false, false, false, false, false] rfl rfl (any_of HT_.out (by kernel_rfl)) (fun _ _ _ h => h) (Or.inl ⟨by rfl, ?_⟩) ?_ ?_
                                        rotate_left
                                        · intro w'
                                          go_simp
                                          with_reducible rfl
                                        rotate_left
                                        · simp only [Act.put, List.setIfInBounds_toArray, List.set_cons_zero, List.set_cons_succ, i64_w, i32_w]
                                          rfl
                                        refine pure_ (i := 2) (N := some 41) (v := ?_) (a' := ?_) #[true, true, true, false, false, false, false, false, false, false, false, false, false, false, false, false, false, false, false, false, false, false, false, false, false, false, false, false, false, false] rfl rfl (any_of HT_.out (by kernel_rfl)) (fun _ _ _ h => h) (Or.inl ⟨by rfl, ?_⟩) ?_ ?_
                                        rotate_left
                                        · intro w'
                                          go_simp
                                          with_reducible rfl
                                        rotate_left
                                        · simp only [Act.put, List.setIfInBounds_toArray, List.set_cons_zero, List.set_cons_succ, i64_w, i32_w]
                                          rfl
                                        refine pure_ (i := 3) (N := some 42) (v := ?_) (a' := ?_) #[true, true, true, true, false, false, false, false, false, false, false, false, false, false, false, false, false, false, false, false, false, false, false, false, false, false, false, false, false, false] rfl rfl (any_of HT_.out (by kernel_rfl)) (fun _ _ _ h => h) (Or.inl ⟨by rfl, ?_⟩) ?_ ?_
                                        rotate_left
                                        · intro w'
                                          go_simp
                                          with_reducible rfl
                                        rotate_left
                                        · simp only [Act.put, List.setIfInBounds_toArray, List.set_cons_zero, List.set_cons_succ, i64_w, i32_w]
                                          rfl
                                        refine pure_ (i := 4) (N := some 43) (v := ?_) (a' := ?_) #[true, true, true, true, true, false, false, false, false, false, false, false, false, false, false, false, false, false, false, false, false, false, false, false, false, false, false, false, false, false] rfl rfl (any_of HT_.out (by kernel_rfl)) (fun _ _ _ h => h) (Or.inl ⟨by rfl, ?_⟩) ?_ ?_
                                        rotate_left
                                        · intro w'
                                          go_simp
                                          with_reducible rfl
                                        rotate_left
                                        · simp only [Act.put, List.setIfInBounds_toArray, List.set_cons_zero, List.set_cons_succ, i64_w, i32_w]
                                          rfl
                                        refine pure_ (i := 5) (N := some 44) (v := ?_) (a' := ?_) #[true, true, true, true, true, true, false, false, false, false, false, false, false, false, false, false, false, false, false, false, false, false, false, false, false, false, false, false, false, false] rfl rfl (any_of HT_.out (by kernel_rfl)) (fun _ _ _ h => h) (Or.inl ⟨by rfl, ?_⟩) ?_ ?_
                                        rotate_left
                                        · intro w'
                                          go_simp
                                          with_reducible rfl
                                        rotate_left
                                        · simp only [Act.put, List.setIfInBounds_toArray, List.set_cons_zero, List.set_cons_succ, i64_w, i32_w]
                                          rfl
                                        refine pure_ (i := 7) (N := some 46) (v := ?_) (a' := ?_) #[true, true, true, true, true, true, false, true, false, false, false, false, false, false, false, false, false, false, false, false, false, false, false, false, false, false, false, false, false, false] rfl rfl (any_of HT_.out (by kernel_rfl)) (fun _ _ _ h => h) (Or.inl ⟨by rfl, ?_⟩) ?_ ?_
                                        rotate_left
                                        · intro w'
                                          go_simp
                                          with_reducible rfl
                                        rotate_left
                                        · simp only [Act.put, List.setIfInBounds_toArray, List.set_cons_zero, List.set_cons_succ, i64_w, i32_w]
                                          rfl
                                        refine pure_ (i := 11) (N := some 50) (v := ?_) (a' := ?_) #[true, true, true, true, true, true, false, true, false, false, false, true, false, false, false, false, false, false, false, false, false, false, false, false, false, false, false, false, false, false] rfl rfl (any_of HT_.out (by kernel_rfl)) (fun _ _ _ h => h) (Or.inl ⟨by rfl, ?_⟩) ?_ ?_
                                        rotate_left
                                        · intro w'
                                          go_simp
                                          with_reducible rfl
                                        rotate_left
                                        · simp only [Act.put, List.setIfInBounds_toArray, List.set_cons_zero, List.set_cons_succ, i64_w, i32_w]
                                          rfl
                                        refine pure_ (i := 12) (N := some 51) (v := ?_) (a' := ?_) #[true, true, true, true, true, true, false, true, false, false, false, true, true, false, false, false, false, false, false, false, false, false, false, false, false, false, false, false, false, false] rfl rfl (any_of HT_.out (by kernel_rfl)) (fun _ _ _ h => h) (Or.inl ⟨by rfl, ?_⟩) ?_ ?_
                                        rotate_left
                                        · intro w'
                                          go_simp
                                          with_reducible rfl
                                        rotate_left
                                        · simp only [Act.put, List.setIfInBounds_toArray, List.set_cons_zero, List.set_cons_succ, i64_w, i32_w]
                                          rfl
                                        refine pure_ (i := 13) (N := some 52) (v := ?_) (a' := ?_) #[true, true, true, true, true, true, false, true, false, false, false, true, true, true, false, false, false, false, false, false, false, false, false, false, false, false, false, false, false, false] rfl rfl (any_of HT_.out (by kernel_rfl)) (fun _ _ _ h => h) (Or.inl ⟨by rfl, ?_⟩) ?_ ?_
                                        rotate_left
                                        · intro w'
                                          go_simp
                                          with_reducible rfl
                                        rotate_left
                                        · simp only [Act.put, List.setIfInBounds_toArray, List.set_cons_zero, List.set_cons_succ, i64_w, i32_w]
                                          rfl
                                        refine pure_ (i := 14) (N := some 53) (v := ?_) (a' := ?_) #[true, true, true, true, true, true, false, true, false, false, false, true, true, true, true, false, false, false, false, false, false, false, false, false, false, false, false, false, false, false] rfl rfl (any_of HT_.out (by kernel_rfl)) (fun _ _ _ h => h) (Or.inl ⟨by rfl, ?_⟩) ?_ ?_
                                        rotate_left
                                        · intro w'
                                          go_simp
                                          with_reducible rfl
                                        rotate_left
                                        · simp only [Act.put, List.setIfInBounds_toArray, List.set_cons_zero, List.set_cons_succ, i64_w, i32_w]
                                          rfl
                                        refine pure_ (i := 15) (N := some 54) (v := ?_) (a' := ?_) #[true, true, true, true, true, true, false, true, false, false, false, true, true, true, true, true, false, false, false, false, false, false, false, false, false, false, false, false, false, false] rfl rfl (any_of HT_.out (by kernel_rfl)) (fun _ _ _ h => h) (Or.inl ⟨by rfl, ?_⟩) ?_ ?_
                                        rotate_left
                                        · intro w'
                                          go_simp
                                          with_reducible rfl
                                        rotate_left
                                        · simp only [Act.put, List.setIfInBounds_toArray, List.set_cons_zero, List.set_cons_succ, i64_w, i32_w]
                                          rfl
                                        refine pure_ (i := 16) (N := some 55) (v := ?_) (a' := ?_) #[true, true, true, true, true, true, false, true, false, false, false, true, true, true, true, true, true, false, false, false, false, false, false, false, false, false, false, false, false, false] rfl rfl (any_of HT_.out (by kernel_rfl)) (fun _ _ _ h => h) (Or.inl ⟨by rfl, ?_⟩) ?_ ?_
                                        rotate_left
                                        · intro w'
                                          go_simp
                                          with_reducible rfl
                                        rotate_left
                                        · simp only [Act.put, List.setIfInBounds_toArray, List.set_cons_zero, List.set_cons_succ, i64_w, i32_w]
                                          rfl
                                        refine pure_ (i := 18) (N := some 57) (v := ?_) (a' := ?_) #[true, true, true, true, true, true, false, true, false, false, false, true, true, true, true, true, true, false, true, false, false, false, false, false, false, false, false, false, false, false] rfl rfl (any_of HT_.out (by kernel_rfl)) (fun _ _ _ h => h) (Or.inl ⟨by rfl, ?_⟩) ?_ ?_
                                        rotate_left
                                        · intro w'
                                          go_simp
                                          with_reducible rfl
                                        rotate_left
                                        · simp only [Act.put, List.setIfInBounds_toArray, List.set_cons_zero, List.set_cons_succ, i64_w, i32_w]
                                          rfl
                                        refine pure_ (i := 23) (N := some 62) (v := ?_) (a' := ?_) #[true, true, true, true, true, true, false, true, false, false, false, true, true, true, true, true, true, false, true, false, false, false, false, true, false, false, false, false, false, false] rfl rfl (any_of HT_.out (by kernel_rfl)) (fun _ _ _ h => h) (Or.inl ⟨by rfl, ?_⟩) ?_ ?_
                                        rotate_left
                                        · intro w'
                                          go_simp
                                          with_reducible rfl
                                        rotate_left
                                        · simp only [Act.put, List.setIfInBounds_toArray, List.set_cons_zero, List.set_cons_succ, i64_w, i32_w]
                                          rfl
                                        refine pure_ (i := 24) (N := some 63) (v := ?_) (a' := ?_) #[true, true, true, true, true, true, false, true, false, false, false, true, true, true, true, true, true, false, true, false, false, false, false, true, true, false, false, false, false, false] rfl rfl (any_of HT_.out (by kernel_rfl)) (fun _ _ _ h => h) (Or.inl ⟨by rfl, ?_⟩) ?_ ?_
                                        rotate_left
                                        · intro w'
                                          go_simp
                                          with_reducible rfl
                                        rotate_left
                                        · simp only [Act.put, List.setIfInBounds_toArray, List.set_cons_zero, List.set_cons_succ, i64_w, i32_w]
                                          rfl
                                        refine pure_ (i := 25) (N := some 64) (v := ?_) (a' := ?_) #[true, true, true, true, true, true, false, true, false, false, false, true, true, true, true, true, true, false, true, false, false, false, false, true, true, true, false, false, false, false] rfl rfl (any_of HT_.out (by kernel_rfl)) (fun _ _ _ h => h) (Or.inl ⟨by rfl, ?_⟩) ?_ ?_
                                        rotate_left
                                        · intro w'
                                          go_simp
                                          with_reducible rfl
                                        rotate_left
                                        · simp only [Act.put, List.setIfInBounds_toArray, List.set_cons_zero, List.set_cons_succ, i64_w, i32_w]
                                          rfl
                                        refine take_ (i := 6) (N := some 45) (v := ?_) (a' := ?_) #[true, true, true, true, true, true, true, true, false, false, false, true, true, true, true, true, true, false, true, false, false, false, false, true, true, true, false, false, false, false] rfl rfl (take_ofW HT_.out HW_.out (by kernel_rfl)) (fun _ _ _ h => h) (Or.inl ⟨by rfl, ?_⟩) hHeld ?_ ?_
                                        rotate_left
                                        · rintro w' ⟨s0, s1, s2, s3, s4, s5, s6, s7, s8, s9, s10, s11, s12⟩
                                          go_simp
                                          with_reducible rfl
                                        rotate_left
                                        · simp only [Act.put, List.setIfInBounds_toArray, List.set_cons_zero, List.set_cons_succ, i64_w, i32_w]
                                          rfl
                                        refine take_ (i := 17) (N := some 56) (v := ?_) (a' := ?_) #[true, true, true, true, true, true, true, true, false, false, false, true, true, true, true, true, true, true, true, false, false, false, false, true, true, true, false, false, false, false] rfl rfl (take_ofW HT_.out HW_.out (by kernel_rfl)) (fun _ _ _ h => h) (Or.inl ⟨by rfl, ?_⟩) hHeld ?_ ?_
                                        rotate_left
                                        · rintro w' ⟨s0, s1, s2, s3, s4, s5, s6, s7, s8, s9, s10, s11, s12⟩
                                          go_simp
                                          with_reducible rfl
                                        rotate_left
                                        · simp only [Act.put, List.setIfInBounds_toArray, List.set_cons_zero, List.set_cons_succ, i64_w, i32_w]
                                          rfl
                                        refine take_ (i := 26) (N := some 65) (v := ?_) (a' := ?_) #[true, true, true, true, true, true, true, true, false, false, false, true, true, true, true, true, true, true, true, false, false, false, false, true, true, true, true, false, false, false] rfl rfl (take_ofW HT_.out HW_.out (by kernel_rfl)) (fun _ _ _ h => h) (Or.inl ⟨by rfl, ?_⟩) hHeld ?_ ?_
                                        rotate_left
                                        · rintro w' ⟨s0, s1, s2, s3, s4, s5, s6, s7, s8, s9, s10, s11, s12⟩
                                          go_simp
                                          with_reducible rfl
                                        rotate_left
                                        · simp only [Act.put, List.setIfInBounds_toArray, List.set_cons_zero, List.set_cons_succ, i64_w, i32_w]
                                          rfl
                                        refine one_ (i := 8) (N := some 47) #[true, true, true, true, true, true, true, true, true, false, false, true, true, true, true, true, true, true, true, false, false, false, false, true, true, true, true, false, false, false] rfl rfl (one_of HT_.out (by kernel_rfl)) (by decide) (fun K hK => ?_)
                                        refine goes_ Try.func58 (by kernel_rfl) rfl #[.slice (some ad159) l0.length c0, .int .i64 ((rd_T38 l0 x7_2).f3), .int .i64 x7_2] (by rfl) rfl rfl (by (try simp only [List.map_toArray, List.map_cons, List.map_nil]); first | done | rfl | (simp only [List.length_drop, List.length_take]; rfl)) ?_
                                        with_reducible refine (tamisref23_Marked.calls kj10 _ _ l0 ((rd_T38 l0 x7_2).f3) x7_2 t160 _ ?side1 ?side2 A18.out).mono ?_
                                        (case side1 => repeat (first | exact (Kd.C_below HR0.out HB.out) | (with_reducible refine Kd.C_alloc ?_ _) | (with_reducible refine Kd.C_drewN ?_ _) | (with_reducible refine Kd.C_drew ?_)))
                                        (case side2 => exact HC0.out)
                                        rintro e w' ⟨rfl, ⟨nd, rfl⟩⟩
                                        refine ⟨_, rfl, ?_⟩
                                        refine hK.out _ _ ⟨((HB.out.cell (World.block_lt_of_cell? w _ hw159_0)).trans hw159_0), ((HB.out.cell (World.block_lt_of_cell? w _ hw159_1)).trans hw159_1), ((HB.out.cell (World.block_lt_of_cell? w _ hw159_2)).trans hw159_2), ((HB.out.cell (World.block_lt_of_cell? w _ hw159_3)).trans hw159_3), ((HB.out.cell (World.block_lt_of_cell? w _ hw159_4)).trans hw159_4), ((HB.out.cell (World.block_lt_of_cell? w _ hw162_0)).trans hw162_0), ((HB.out.cell (World.block_lt_of_cell? w _ hw162_1)).trans hw162_1), ((HB.out.cell (World.block_lt_of_cell? w _ hw162_2)).trans hw162_2), ((HB.out.cell (World.block_lt_of_cell? w _ hw162_3)).trans hw162_3), ((HB.out.cell (World.block_lt_of_cell? w _ hw162_4)).trans hw162_4), hHeld.2.2.2.2.2.2.2.2.2.2.1, hHeld.2.2.2.2.2.2.2.2.2.2.2.1, hHeld.2.2.2.2.2.2.2.2.2.2.2.2⟩ (fun hHeld => ?_)
                                        clear hK K
                                        refine norm_ (a' := ?_) ?_ ?_
                                        rotate_left
                                        · show Act.put _ (some 47) _ = _
                                          simp only [Act.put, List.setIfInBounds_toArray, List.set_cons_zero, List.set_cons_succ, i64_w, i32_w]
                                          rfl
                                        refine pure_ (i := 9) (N := some 48) (v := ?_) (a' := ?_) #[true, true, true, true, true, true, true, true, true, true, false, true, true, true, true, true, true, true, true, false, false, false, false, true, true, true, true, false, false, false] rfl rfl (any_of HT_.out (by kernel_rfl)) (fun _ _ _ h => h) (Or.inl ⟨by rfl, ?_⟩) ?_ ?_
                                        rotate_left
                                        · intro w'
                                          go_simp
                                          with_reducible rfl
                                        rotate_left
                                        · simp only [Act.put, List.setIfInBounds_toArray, List.set_cons_zero, List.set_cons_succ, i64_w, i32_w]
                                          rfl
                                        refine take_ (i := 10) (N := some 49) (v := ?_) (a' := ?_) #[true, true, true, true, true, true, true, true, true, true, true, true, true, true, true, true, true, true, true, false, false, false, false, true, true, true, true, false, false, false] rfl rfl (take_ofW HT_.out HW_.out (by kernel_rfl)) (fun _ _ _ h => h) (Or.inl ⟨by rfl, ?_⟩) hHeld ?_ ?_
                                        rotate_left
                                        · rintro w' ⟨s0, s1, s2, s3, s4, s5, s6, s7, s8, s9, s10, s11, s12⟩
                                          go_simp
                                          with_reducible rfl
                                        rotate_left
                                        · simp only [Act.put, List.setIfInBounds_toArray, List.set_cons_zero, List.set_cons_succ, i64_w, i32_w]
                                          rfl
                                        refine one_ (i := 19) (N := some 58) #[true, true, true, true, true, true, true, true, true, true, true, true, true, true, true, true, true, true, true, true, false, false, false, true, true, true, true, false, false, false] rfl rfl (one_of HT_.out (by kernel_rfl)) (by decide) (fun K hK => ?_)
                                        refine goes_ Try.func58 (by kernel_rfl) rfl #[.slice (some ad159) l0.length c0, .int .i64 ((rd_T38 l0 x7_2).f4), .int .i64 x7_2] (by rfl) rfl rfl (by (try simp only [List.map_toArray, List.map_cons, List.map_nil]); first | done | rfl | (simp only [List.length_drop, List.length_take]; rfl)) ?_
                                        with_reducible refine (tamisref23_Marked.calls kj10 _ _ l0 ((rd_T38 l0 x7_2).f4) x7_2 t163 _ ?side1 ?side2 A21.out).mono ?_
                                        (case side1 => repeat (first | exact (Kd.C_below HR0.out (by repeat (first | (with_reducible first | exact HB.out | apply below_alloc | apply pw_below_drewN | apply below_drew1) | exact HB.out))) | (with_reducible refine Kd.C_alloc ?_ _) | (with_reducible refine Kd.C_drewN ?_ _) | (with_reducible refine Kd.C_drew ?_)))
                                        (case side2 => exact HC0.out)
                                        rintro e w' ⟨rfl, ⟨nd, rfl⟩⟩
                                        refine ⟨_, rfl, ?_⟩
                                        refine hK.out _ _ ⟨((HB.out.cell (World.block_lt_of_cell? w _ hw159_0)).trans hw159_0), ((HB.out.cell (World.block_lt_of_cell? w _ hw159_1)).trans hw159_1), ((HB.out.cell (World.block_lt_of_cell? w _ hw159_2)).trans hw159_2), ((HB.out.cell (World.block_lt_of_cell? w _ hw159_3)).trans hw159_3), ((HB.out.cell (World.block_lt_of_cell? w _ hw159_4)).trans hw159_4), ((HB.out.cell (World.block_lt_of_cell? w _ hw162_0)).trans hw162_0), ((HB.out.cell (World.block_lt_of_cell? w _ hw162_1)).trans hw162_1), ((HB.out.cell (World.block_lt_of_cell? w _ hw162_2)).trans hw162_2), ((HB.out.cell (World.block_lt_of_cell? w _ hw162_3)).trans hw162_3), ((HB.out.cell (World.block_lt_of_cell? w _ hw162_4)).trans hw162_4), hHeld.2.2.2.2.2.2.2.2.2.2.1, hHeld.2.2.2.2.2.2.2.2.2.2.2.1, hHeld.2.2.2.2.2.2.2.2.2.2.2.2⟩ (fun hHeld => ?_)
                                        clear hK K
                                        refine norm_ (a' := ?_) ?_ ?_
                                        rotate_left
                                        · show Act.put _ (some 58) _ = _
                                          simp only [Act.put, List.setIfInBounds_toArray, List.set_cons_zero, List.set_cons_succ, i64_w, i32_w]
                                          rfl
                                        refine pure_ (i := 20) (N := some 59) (v := ?_) (a' := ?_) #[true, true, true, true, true, true, true, true, true, true, true, true, true, true, true, true, true, true, true, true, true, false, false, true, true, true, true, false, false, false] rfl rfl (any_of HT_.out (by kernel_rfl)) (fun _ _ _ h => h) (Or.inl ⟨by rfl, ?_⟩) ?_ ?_
                                        rotate_left
                                        · intro w'
                                          go_simp
                                          with_reducible rfl
                                        rotate_left
                                        · simp only [Act.put, List.setIfInBounds_toArray, List.set_cons_zero, List.set_cons_succ, i64_w, i32_w]
                                          rfl
                                        refine take_ (i := 21) (N := some 60) (v := ?_) (a' := ?_) #[true, true, true, true, true, true, true, true, true, true, true, true, true, true, true, true, true, true, true, true, true, true, false, true, true, true, true, false, false, false] rfl rfl (take_ofW HT_.out HW_.out (by kernel_rfl)) (fun _ _ _ h => h) (Or.inl ⟨by rfl, ?_⟩) hHeld ?_ ?_
                                        rotate_left
                                        · rintro w' ⟨s0, s1, s2, s3, s4, s5, s6, s7, s8, s9, s10, s11, s12⟩
                                          go_simp
                                          with_reducible rfl
                                        rotate_left
                                        · simp only [Act.put, List.setIfInBounds_toArray, List.set_cons_zero, List.set_cons_succ, i64_w, i32_w]
                                          rfl
                                        refine pure_ (i := 22) (N := some 61) (v := ?_) (a' := ?_) #[true, true, true, true, true, true, true, true, true, true, true, true, true, true, true, true, true, true, true, true, true, true, true, true, true, true, true, false, false, false] rfl rfl (any_of HT_.out (by kernel_rfl)) (fun _ _ _ h => h) (Or.inl ⟨by rfl, ?_⟩) ?_ ?_
                                        rotate_left
                                        · intro w'
                                          go_simp
                                          with_reducible rfl
                                        rotate_left
                                        · simp only [Act.put, List.setIfInBounds_toArray, List.set_cons_zero, List.set_cons_succ, i64_w, i32_w]
                                          rfl
                                        refine pure_ (i := 27) (N := some 66) (v := ?_) (a' := ?_) #[true, true, true, true, true, true, true, true, true, true, true, true, true, true, true, true, true, true, true, true, true, true, true, true, true, true, true, true, false, false] rfl rfl (any_of HT_.out (by kernel_rfl)) (fun _ _ _ h => h) (Or.inl ⟨by rfl, ?_⟩) ?_ ?_
                                        rotate_left
                                        · intro w'
                                          go_simp
                                          with_reducible rfl
                                        rotate_left
                                        · simp only [Act.put, List.setIfInBounds_toArray, List.set_cons_zero, List.set_cons_succ, i64_w, i32_w]
                                          rfl
                                        refine pure_ (i := 28) (N := some 67) (v := ?_) (a' := ?_) #[true, true, true, true, true, true, true, true, true, true, true, true, true, true, true, true, true, true, true, true, true, true, true, true, true, true, true, true, true, false] rfl rfl (any_of HT_.out (by kernel_rfl)) (fun _ _ _ h => h) (Or.inl ⟨by rfl, ?_⟩) ?_ ?_
                                        rotate_left
                                        · intro w'
                                          go_simp
                                          with_reducible rfl
                                        rotate_left
                                        · simp only [Act.put, List.setIfInBounds_toArray, List.set_cons_zero, List.set_cons_succ, i64_w, i32_w]
                                          rfl
                                        refine pure_ (i := 29) (N := some 8) (v := ?_) (a' := ?_) #[true, true, true, true, true, true, true, true, true, true, true, true, true, true, true, true, true, true, true, true, true, true, true, true, true, true, true, true, true, true] rfl rfl (any_of HT_.out (by kernel_rfl)) (fun _ _ _ h => h) (Or.inl ⟨by rfl, ?_⟩) ?_ ?_
                                        rotate_left
                                        · intro w'
                                          go_simp
                                          with_reducible rfl
                                        rotate_left
                                        · simp only [Act.put, List.setIfInBounds_toArray, List.set_cons_zero, List.set_cons_succ, i64_w, i32_w]
                                          rfl
                                        refine done_ (done_of HT_.out (by kernel_rfl)) ?_
                                        try go_wp2
                                        (try simp only [← hl3_2])
                                        go_roundg kj10
                                        case measure => have := HK1.out; have := HK2.out; have := HJ10.out; omega
                                        case rel => exact ⟨(x3_2), (x6_2), (wrap64 (x7_2 + 1)), (by first | rfl | (simp; done) | (simp [*]; done)), (by first | rfl | (simp; done) | (simp [*]; done)), H', ⟨by have := HK1.out; have := HK2.out; have := HJ10.out; omega⟩, ⟨by (try simp only [hl3_2]); (with_reducible repeat (first | apply Kd.R_alloc | apply Kd.R_drewN | apply Kd.R_drew)); exact HO_3.out⟩, ⟨by (try simp only [hl3_2]); (with_reducible repeat (first | apply Kd.R_alloc | apply Kd.R_drewN | apply Kd.R_drew)); exact HO_5.out⟩, ⟨by repeat (first | (with_reducible first | exact HB.out | apply below_alloc | apply pw_below_drewN | apply below_drew1) | exact HB.out)⟩⟩
                                    · rw [if_neg c25] at H
                                      exact absurd H (by simp)
                                  · rw [if_neg c23] at H
                                    exact absurd H (by simp)
                                · rw [if_neg c22] at H
                                  exact absurd H (by simp)
                              · rw [if_neg c20] at H
                                exact absurd H (by simp)
                            · rw [if_neg c19] at H
                              exact absurd H (by simp)
                          · rw [if_neg c17] at H
                            exact absurd H (by simp)
                        · rw [if_neg c16] at H
                          exact absurd H (by simp)
                · rw [if_neg c10] at H
                  have c10b0 : decide (x7_2 < (l0.length : Int)) = false := decide_eq_false c10
                  clear c10
                  by_cases c35 : x6_2 = true
                  · subst c35
                    have H1 : (tamisref23_Long.l0 k2 l0 x3_2 (wrap64 (x4_1 + 1))) = some r := by rw [if_pos rfl] at H; exact H
                    clear H
                    have H := H1
                    clear H1
                    have H' := Aside0.mk H
                    clear H
                    go_wp2
                    (try simp only [← hl3_2])
                    go_roundg k2
                    case measure => have := HK1.out; have := HK2.out; omega
                    case rel => exact ⟨(x3_2), (wrap64 (x4_1 + 1)), (by first | rfl | (simp; done) | (simp [*]; done)), H', ⟨by have := HK1.out; have := HK2.out; omega⟩, ⟨by (try simp only [hl3_2]); (with_reducible repeat (first | apply Kd.R_alloc | apply Kd.R_drewN | apply Kd.R_drew)); exact HO_3.out⟩, ⟨by repeat (first | (with_reducible first | exact HB.out | apply below_alloc | apply pw_below_drewN | apply below_drew1) | exact HB.out)⟩⟩
                  · replace c35 := Bool.eq_false_iff.mpr c35
                    subst c35
                    have H1 : (some x3_2) = some r := by rw [if_neg (show ¬ (false = true) by decide)] at H; exact H
                    clear H
                    have H := H1
                    clear H1
                    obtain rfl := Option.some.inj H
                    go_wp2
                    go_ret
                    exact ⟨_, by first | rfl | (simp [errW_none, errW_some] <;> rfl) | (simp [*, errW_none, errW_some] <;> rfl), by (with_reducible repeat (first | apply Kd.R_alloc | apply Kd.R_drewN | apply Kd.R_drew)); exact HO_3.out, by repeat (first | (with_reducible first | exact HB.out | apply below_alloc | apply pw_below_drewN | apply below_drew1) | exact HB.out)⟩
          · rw [if_neg c6] at H
            have c6b0 : decide (x4_1 ≤ (l0.length : Int)) = false := decide_eq_false c6
            clear c6
            obtain rfl := Option.some.inj H
            go_wp2
            go_ret
            exact ⟨_, by first | rfl | (simp [errW_none, errW_some] <;> rfl) | (simp [*, errW_none, errW_some] <;> rfl), by (with_reducible repeat (first | apply Kd.R_alloc | apply Kd.R_drewN | apply Kd.R_drew)); exact HO_3.out, by repeat (first | (with_reducible first | exact HB.out | apply below_alloc | apply pw_below_drewN | apply below_drew1) | exact HB.out)⟩
    · rw [if_neg c3] at H
      exact absurd H (by simp)
  · rw [if_neg c2] at H
    exact absurd H (by simp)

end Go.Proofs.Ytmjpibeiglicdaa.E
