/- Functions of the program as plain Lean functions, and their contracts; written by a program out of the translation. -/
import Derived.Test.YtmjpibeiglicdaaX0
import Derived.Test.YtmjpibeiglicdaaX7
namespace Go.Proofs.Ytmjpibeiglicdaa.X
open Go.RowKit Go.Proofs.YtmjpibeiglicdaaW.PrintWords Go.Proofs.YtmjpibeiglicdaaW.PrintLast Go.Proofs.YtmjpibeiglicdaaW.PrintMore
attribute [local go_sem] max2_int min2_int max_two min_two max_three min_three max_four min_four   -- for this text's walks alone
set_option linter.unusedVariables false
set_option linter.unusedSimpArgs false

/-! ### tamisref06_Written: function 44 -/
mutual
def tamisref06_Written.l0 : Nat → List (S56) → List Int → Int → Option (List Int)
  | 0, _, _, _ => none
  | k + 1, x0, x3, x4 => if x4 < 16 then ((tamisref06_Without.f k x0 x4).bind fun t211 => (tamisref06_Written.l1 k x0 x3 x4 t211 0)) else (some x3)
def tamisref06_Written.l1 : Nat → List (S56) → List Int → Int → List Bool → Int → Option (List Int)
  | 0, _, _, _, _, _ => none
  | k + 1, x0, x3, x4, x5, x6 => if x6 < (x0.length : Int) then (if 0 ≤ x6 then (if x6 < (x5.length : Int) then (if rdOf false x5 x6 = true then (tamisref06_Written.l1 k x0 x3 x4 x5 (wrap64 (x6 + 1))) else (if x6 < (x3.length : Int) then (if 0 ≤ x4 then (tamisref06_Written.l1 k x0 (x3.set (x6 : Int).toNat (Go.bits .or .u16 (rd x3 x6) (shl .u16 1 x4))) x4 x5 (wrap64 (x6 + 1))) else (none)) else (none))) else (none)) else (none)) else (tamisref06_Written.l0 k x0 x3 (wrap64 (x4 + 1)))
end
def tamisref06_Written.f (k : Nat) (l0 : List (S56)) : Option (List Int) := (tamisref06_whole.f k l0).bind fun t207 => (if t207 = true then (if 0 ≤ (l0.length : Int) then (if ((l0.length : Int) : Int).toNat ≤ 140737488355328 then (tamisref06_Written.l0 k l0 (List.replicate ((l0.length : Int) : Int).toNat 0) 0) else (none)) else (none)) else (some ([] : List Int)))
theorem tamisref06_Written.mono_l : ∀ k, (∀ y0 y1 y2, LeO (tamisref06_Written.l0 k y0 y1 y2) (tamisref06_Written.l0 (k + 1) y0 y1 y2)) ∧ (∀ y0 y1 y2 y3 y4, LeO (tamisref06_Written.l1 k y0 y1 y2 y3 y4) (tamisref06_Written.l1 (k + 1) y0 y1 y2 y3 y4))
  | 0 => ⟨fun _ _ _ r h => by simp [tamisref06_Written.l0] at h, fun _ _ _ _ _ r h => by simp [tamisref06_Written.l1] at h⟩
  | k + 1 => by
    obtain ⟨ih0, ih1⟩ := tamisref06_Written.mono_l k
    refine ⟨?_, ?_⟩
    · intro y0 y1 y2
      unfold tamisref06_Written.l0
      repeat' first
      | (with_reducible exact ih0 _ _ _)
      | (with_reducible exact ih1 _ _ _ _ _)
      | (with_reducible exact tamisref06_Without.mono _ _ _)
      | (with_reducible exact tamisref06_whole.mono _ _)
      | (with_reducible exact LeO.refl _)
      | (with_reducible exact LeO.none _)
      | (with_reducible refine LeO.ite ?_ ?_)
      | (with_reducible refine LeO.bind ?_ (fun _ => ?_))
      | exact ih0 _ _ _
      | exact ih1 _ _ _ _ _
      | exact tamisref06_Without.mono _ _ _
      | exact tamisref06_whole.mono _ _
      | exact LeO.none _
      | refine LeO.ite ?_ ?_
      | refine LeO.bind ?_ (fun _ => ?_)
    · intro y0 y1 y2 y3 y4
      unfold tamisref06_Written.l1
      repeat' first
      | (with_reducible exact ih0 _ _ _)
      | (with_reducible exact ih1 _ _ _ _ _)
      | (with_reducible exact tamisref06_Without.mono _ _ _)
      | (with_reducible exact tamisref06_whole.mono _ _)
      | (with_reducible exact LeO.refl _)
      | (with_reducible exact LeO.none _)
      | (with_reducible refine LeO.ite ?_ ?_)
      | (with_reducible refine LeO.bind ?_ (fun _ => ?_))
      | exact ih0 _ _ _
      | exact ih1 _ _ _ _ _
      | exact tamisref06_Without.mono _ _ _
      | exact tamisref06_whole.mono _ _
      | exact LeO.none _
      | refine LeO.ite ?_ ?_
      | refine LeO.bind ?_ (fun _ => ?_)
theorem tamisref06_Written.mono : ∀ a0 k, LeO (tamisref06_Written.f k a0) (tamisref06_Written.f (k + 1) a0) := by
  intro a0 k
  obtain ⟨ih0, ih1⟩ := tamisref06_Written.mono_l k
  unfold tamisref06_Written.f
  repeat' first
      | (with_reducible exact ih0 _ _ _)
      | (with_reducible exact ih1 _ _ _ _ _)
      | (with_reducible exact tamisref06_Without.mono _ _ _)
      | (with_reducible exact tamisref06_whole.mono _ _)
      | (with_reducible exact LeO.refl _)
      | (with_reducible exact LeO.none _)
      | (with_reducible refine LeO.ite ?_ ?_)
      | (with_reducible refine LeO.bind ?_ (fun _ => ?_))
      | exact ih0 _ _ _
      | exact ih1 _ _ _ _ _
      | exact tamisref06_Without.mono _ _ _
      | exact tamisref06_whole.mono _ _
      | exact LeO.none _
      | refine LeO.ite ?_ ?_
      | refine LeO.bind ?_ (fun _ => ?_)
def tamisref06_Written.T12 : Bool × List (List Nat × List Nat) := (true, [([], []), ([], []), ([0, 1], [0, 1]), ([2], [2]), ([], []), ([4], [4]), ([3, 5], [3, 5]), ([0, 1, 0, 1, 2, 3, 4, 5, 6], [0, 1]), ([7, 6, 0, 1, 2, 3, 4, 5, 6], [6, 7])])
def tamisref06_Written.B12 : List Nat := [0, 0, 3, 7, 0, 16, 63, 127, 255]
theorem tamisref06_Written.tab12 : rtab .any (opsOf Try.f44 12) = tamisref06_Written.T12 := by kernel_rfl
theorem tamisref06_Written.bits12 : waitsOk tamisref06_Written.T12.2 tamisref06_Written.B12 = true := by kernel_rfl
set_option maxHeartbeats 8000000 in
set_option maxRecDepth 100000 in
theorem tamisref06_Written.calls (k : Nat) (A0 : Option Addr) (c0 : Nat) (l0 : List (S56)) (r : List Int) (w : World) (hr0 : Kd.C k56 w A0 l0.length l0) (hc0 : l0.length ≤ c0) (h : tamisref06_Written.f k l0 = some r) :
    Calls Try.prog 44 #[.slice A0 l0.length c0] w fun e w' => ∃ v0_ : Value, e = .returned (v0_) ∧ Kd.R (Kd.int .u16) 35 w' w.heap.size (fun _ => True) v0_ r ∧ Below w.heap.size w w' := by
  have HR0 := Aside0.mk hr0
  have HC0 := Aside0.mk hc0
  clear hr0 hc0
  have HB := Aside0.mk (Below.refl w.heap.size w)
  have H : ((tamisref06_whole.f k l0).bind fun t207 => (if t207 = true then (if 0 ≤ (l0.length : Int) then (if ((l0.length : Int) : Int).toNat ≤ 140737488355328 then (tamisref06_Written.l0 k l0 (List.replicate ((l0.length : Int) : Int).toNat 0) 0) else (none)) else (none)) else (some ([] : List Int)))) = some r := h
  clear h
  replace H := Option.bind_eq_some_iff.mp H
  obtain ⟨t207, A20, H⟩ := H
  replace H : (if t207 = true then (if 0 ≤ (l0.length : Int) then (if ((l0.length : Int) : Int).toNat ≤ 140737488355328 then (tamisref06_Written.l0 k l0 (List.replicate ((l0.length : Int) : Int).toNat 0) 0) else (none)) else (none)) else (some ([] : List Int))) = some r := H
  have A2 := Aside0.mk A20
  clear A20
  by_cases c3 : t207 = true
  · subst c3
    have H1 : (if 0 ≤ (l0.length : Int) then (if ((l0.length : Int) : Int).toNat ≤ 140737488355328 then (tamisref06_Written.l0 k l0 (List.replicate ((l0.length : Int) : Int).toNat 0) 0) else (none)) else (none)) = some r := by rw [if_pos rfl] at H; exact H
    clear H
    have H := H1
    clear H1
    by_cases c4 : 0 ≤ (l0.length : Int)
    · rw [if_pos c4] at H
      have c4b0 := eq_true c4
      have c4b1 : decide (0 ≤ (l0.length : Int)) = true := decide_eq_true c4
      clear c4
      by_cases c5 : ((l0.length : Int) : Int).toNat ≤ 140737488355328
      · rw [if_pos c5] at H
        have c5b0 := eq_true c5
        have c5b1 : decide (((l0.length : Int) : Int).toNat ≤ 140737488355328) = true := decide_eq_true c5
        clear c5
        obtain ⟨y208, hy208⟩ : ∃ y_ : List Int, y_ = (List.replicate ((l0.length : Int) : Int).toNat 0) := ⟨_, rfl⟩
        replace H : (tamisref06_Written.l0 k l0 y208 0) = some r := by first | (rw [hy208]; with_reducible exact H) | (have H2_ := (Option.bind_some _ _).symm.trans H; rw [hy208]; with_reducible exact H2_) | (have H2_ := (Option.bind_some _ _).symm.trans H; with_reducible exact H2_) | with_reducible exact H | (rw [hy208]; exact H) | exact H
        have Ny208 := Aside0.mk hy208
        clear hy208
        have H' := Aside0.mk H
        clear H
        go_enter Try.func44, Try.ntmps44
        go_wp2_with (first | ((with_reducible refine gate_callee (f := 83) rfl ?_); refine goesL_ (some 8) rfl rfl Try.func83 (by kernel_rfl) rfl #[.slice A0 l0.length c0] rfl (by (try simp only [List.map_toArray, List.map_cons, List.map_nil]); first | done | rfl | (simp only [List.length_drop, List.length_take]; rfl)) ?_; (with_reducible refine (tamisref06_whole.calls k _ _ l0 true _ ?side1 ?side2 A2.out).mono ?_); (case side1 => repeat (first | exact HR0.out | (with_reducible refine Kd.C_alloc ?_ _) | (with_reducible refine Kd.C_drewN ?_ _) | (with_reducible refine Kd.C_drew ?_))); (case side2 => exact HC0.out); rintro e w6 ⟨rfl, hb⟩; refine ⟨_, rfl, ?_⟩; have n0_ := Aside0.mk (below_step (by repeat (first | (with_reducible first | exact HB.out | apply below_alloc | apply pw_below_drewN | apply below_drew1) | exact HB.out)) hb); clear HB; have HB := n0_; clear n0_; (try clear hb); (try clear hb2); (try clear hk); (try clear hi)) | ((with_reducible refine gate_dst (N := 12) rfl ?_); refine Kd.R_make (Kd.int .u16) _ 35 rfl (N := 12) rfl 52 _ _ rfl (l0.length : Int) rfl rfl Try.underlying52 (.int .u16 0) 2 info35 rfl (by decide) (by omega) 0 (ok := fun _ => True) (okp := fun _ => True) rfl (fun _ hk => hk) trivial (of_decide_eq_true (by first | (with_reducible assumption) | assumption)) (Nat.le_trans (Nat.mul_le_mul_right _ (of_decide_eq_true (by first | (with_reducible assumption) | assumption) : (l0.length : Int).toNat ≤ 140737488355328)) (by omega)) (Below.refl _ _) (Nat.le_refl _) ?_; intro v209 w7 ho8 hb hg_ hnew_; clear hg_ hnew_; (first | rw [← Ny208.out] at ho8 | (simp only [Int.reduceToNat] at ho8; rw [← Ny208.out] at ho8)); have n0_ := Aside0.mk (Kd.R_lower ho8 (below_size (by repeat (first | (with_reducible first | exact HB.out | apply below_alloc | apply pw_below_drewN | apply below_drew1) | exact HB.out)))); have n1_ := Aside0.mk (below_step (by repeat (first | (with_reducible first | exact HB.out | apply below_alloc | apply pw_below_drewN | apply below_drew1) | exact HB.out)) hb); clear HB; have HO210 := n0_; have HB := n1_; clear n0_ n1_; clear hb ho8))
        go_loopg [4] k (fun kq v4 w' => ∃ (x3_1 : List Int) (x4_1 : Int), v4 = .int .i64 x4_1 ∧ Aside0 (tamisref06_Written.l0 kq l0 x3_1 x4_1 = some r) ∧ Aside0 (kq ≤ k) ∧ Aside0 (Kd.R (Kd.int .u16) 35 w' w.heap.size (fun _ => True) v209 x3_1) ∧ Aside0 (Below w.heap.size w w'))
        case atStart => exact ⟨(y208), (0), (by first | rfl | (simp; done) | (simp [*]; done)), H', ⟨Nat.le_refl _⟩, ⟨by (with_reducible repeat (first | apply Kd.R_alloc | apply Kd.R_drewN | apply Kd.R_drew)); exact HO210.out⟩, ⟨by repeat (first | (with_reducible first | exact HB.out | apply below_alloc | apply pw_below_drewN | apply below_drew1) | exact HB.out)⟩⟩
        case round =>
          clear H'
          try clear p2
          try clear c3
          try clear c4
          try clear c4b0
          try clear c4b1
          try clear c5
          try clear c5b0
          try clear c5b1
          try clear c8
          obtain ⟨x3_1, x4_1, rfl, HA, HK1, HO_3, HB⟩ := hrel
          cases gk with
          | zero => exact absurd HA.out (by simp [tamisref06_Written.l0])
          | succ k1 =>
            have H := HA.out
            clear HA
            simp only [tamisref06_Written.l0] at H
            by_cases c9 : x4_1 < 16
            · rw [if_pos c9] at H
              have c9b0 : decide (x4_1 < 16) = true := decide_eq_true c9
              clear c9
              replace H := Option.bind_eq_some_iff.mp H
              obtain ⟨t211, A100, H⟩ := H
              replace H : (tamisref06_Written.l1 k1 l0 x3_1 x4_1 t211 0) = some r := H
              have A10 := Aside0.mk A100
              clear A100
              have H' := Aside0.mk H
              clear H
              go_wp2_with (first | ((with_reducible refine gate_callee (f := 48) rfl ?_); refine goesL_ (some 19) rfl rfl Try.func48 (by kernel_rfl) rfl #[.slice A0 l0.length c0, .int .i64 x4_1] rfl (by (try simp only [List.map_toArray, List.map_cons, List.map_nil]); first | done | rfl | (simp only [List.length_drop, List.length_take]; rfl)) ?_; (with_reducible refine (tamisref06_Without.calls k1 _ _ l0 x4_1 t211 _ ?side1 ?side2 A10.out).mono ?_); (case side1 => repeat (first | exact (Kd.C_below HR0.out HB.out) | (with_reducible refine Kd.C_alloc ?_ _) | (with_reducible refine Kd.C_drewN ?_ _) | (with_reducible refine Kd.C_drew ?_))); (case side2 => exact HC0.out); rintro e w11 ⟨v212, rfl, ho0, hb⟩; refine ⟨_, rfl, ?_⟩; have n0_ := Aside0.mk (Kd.R_below (by (with_reducible repeat (first | apply Kd.R_alloc | apply Kd.R_drewN | apply Kd.R_drew)); exact HO_3.out) hb); have n1_ := Aside0.mk (Kd.R_lower ho0 (below_size (by repeat (first | (with_reducible first | exact HB.out | apply below_alloc | apply pw_below_drewN | apply below_drew1) | exact HB.out)))); have n2_ := Aside0.mk (below_step (by repeat (first | (with_reducible first | exact HB.out | apply below_alloc | apply pw_below_drewN | apply below_drew1) | exact HB.out)) hb); clear HO_3; clear HB; have HO_3 := n0_; have HO213 := n1_; have HB := n2_; clear n0_ n1_ n2_; (try clear hb); (try clear hb2); (try clear hk); (try clear hi); (try clear ho0)))
              go_loopg [6] k1 (fun kq v6 w' => ∃ (x3_2 : List Int) (x6_2 : Int), v6 = .int .i64 x6_2 ∧ Aside0 (tamisref06_Written.l1 kq l0 x3_2 x4_1 t211 x6_2 = some r) ∧ Aside0 (kq ≤ k1) ∧ Aside0 (Kd.R (Kd.int .u16) 35 w' w.heap.size (fun _ => True) v209 x3_2) ∧ Aside0 (Kd.R Kd.bool 4 w' w.heap.size (fun _ => True) v212 t211) ∧ Aside0 (Below w.heap.size w w'))
              case atStart => exact ⟨(x3_1), (0), (by first | rfl | (simp; done) | (simp [*]; done)), H', ⟨Nat.le_refl _⟩, ⟨by (with_reducible repeat (first | apply Kd.R_alloc | apply Kd.R_drewN | apply Kd.R_drew)); exact HO_3.out⟩, ⟨by (with_reducible repeat (first | apply Kd.R_alloc | apply Kd.R_drewN | apply Kd.R_drew)); exact HO213.out⟩, ⟨by repeat (first | (with_reducible first | exact HB.out | apply below_alloc | apply pw_below_drewN | apply below_drew1) | exact HB.out)⟩⟩
              case round =>
                clear H'
                try clear p2
                try clear c3
                try clear c4
                try clear c4b0
                try clear c4b1
                try clear c5
                try clear c5b0
                try clear c5b1
                try clear c8
                try clear c9
                try clear c9b0
                try clear p2
                obtain ⟨x3_2, x6_2, rfl, HA, HK2, HO_3, HO_5, HB⟩ := hrel
                cases gk with
                | zero => exact absurd HA.out (by simp [tamisref06_Written.l1])
                | succ k2 =>
                  have H := HA.out
                  clear HA
                  simp only [tamisref06_Written.l1] at H
                  by_cases c12 : x6_2 < (l0.length : Int)
                  · rw [if_pos c12] at H
                    have c12b0 : decide (x6_2 < (l0.length : Int)) = true := decide_eq_true c12
                    clear c12
                    by_cases c13 : 0 ≤ x6_2
                    · rw [if_pos c13] at H
                      have c13b0 : decide (0 ≤ x6_2) = true := decide_eq_true c13
                      clear c13
                      by_cases c14 : x6_2 < (t211.length : Int)
                      · rw [if_pos c14] at H
                        have c14b0 : decide (x6_2 < (t211.length : Int)) = true := decide_eq_true c14
                        clear c14
                        obtain ⟨bq15, hbq15⟩ : ∃ b_ : Bool, b_ = (rdOf false t211 x6_2) := ⟨_, rfl⟩
                        replace H : (if bq15 = true then (tamisref06_Written.l1 k2 l0 x3_2 x4_1 t211 (wrap64 (x6_2 + 1))) else (if x6_2 < (x3_2.length : Int) then (if 0 ≤ x4_1 then (tamisref06_Written.l1 k2 l0 (x3_2.set (x6_2 : Int).toNat (Go.bits .or .u16 (rd x3_2 x6_2) (shl .u16 1 x4_1))) x4_1 t211 (wrap64 (x6_2 + 1))) else (none)) else (none))) = some r := by rw [← hbq15] at H; exact H
                        have Nbq15 := Aside0.mk hbq15
                        clear hbq15
                        by_cases c16 : bq15 = true
                        · subst c16
                          have H1 : (tamisref06_Written.l1 k2 l0 x3_2 x4_1 t211 (wrap64 (x6_2 + 1))) = some r := by rw [if_pos rfl] at H; exact H
                          clear H
                          have H := H1
                          clear H1
                          have H' := Aside0.mk H
                          clear H
                          obtain ⟨Ao17, co17, eo17⟩ := Kd.R_slice HO_5.out
                          subst eo17
                          have p214 : 0 ≤ (x6_2 : Int) := of_decide_eq_true (by first | (with_reducible assumption) | assumption)
                          have q214 : x6_2 < (t211.length : Int) := of_decide_eq_true (by first | (with_reducible assumption) | assumption)
                          obtain ⟨ad214, e214, hx214_0⟩ := Kd.at_bool (Kd.R_reads' HO_5.out).2.2 x6_2 p214 q214
                          (try rw [← Nbq15.out] at hx214_0)
                          cases e214
                          replace p214 := eq_true p214
                          replace q214 := eq_true q214
                          go_wp2
                          go_roundg k2
                          case measure => have := HK1.out; have := HK2.out; omega
                          case rel => exact ⟨(x3_2), (wrap64 (x6_2 + 1)), (by first | rfl | (simp; done) | (simp [*]; done)), H', ⟨by have := HK1.out; have := HK2.out; omega⟩, ⟨by (with_reducible repeat (first | apply Kd.R_alloc | apply Kd.R_drewN | apply Kd.R_drew)); exact HO_3.out⟩, ⟨by (with_reducible repeat (first | apply Kd.R_alloc | apply Kd.R_drewN | apply Kd.R_drew)); exact HO_5.out⟩, ⟨by repeat (first | (with_reducible first | exact HB.out | apply below_alloc | apply pw_below_drewN | apply below_drew1) | exact HB.out)⟩⟩
                        · replace c16 := Bool.eq_false_iff.mpr c16
                          subst c16
                          have H1 : (if x6_2 < (x3_2.length : Int) then (if 0 ≤ x4_1 then (tamisref06_Written.l1 k2 l0 (x3_2.set (x6_2 : Int).toNat (Go.bits .or .u16 (rd x3_2 x6_2) (shl .u16 1 x4_1))) x4_1 t211 (wrap64 (x6_2 + 1))) else (none)) else (none)) = some r := by rw [if_neg (show ¬ (false = true) by decide)] at H; exact H
                          clear H
                          have H := H1
                          clear H1
                          by_cases c18 : x6_2 < (x3_2.length : Int)
                          · rw [if_pos c18] at H
                            have c18b0 : decide (x6_2 < (x3_2.length : Int)) = true := decide_eq_true c18
                            clear c18
                            by_cases c19 : 0 ≤ x4_1
                            · rw [if_pos c19] at H
                              have c19b0 := eq_true c19
                              have c19b1 : decide (0 ≤ x4_1) = true := decide_eq_true c19
                              clear c19
                              obtain ⟨ji20, hji20⟩ : ∃ j_ : Int, (shl .u16 1 x4_1) = j_ := ⟨_, rfl⟩
                              replace H : (tamisref06_Written.l1 k2 l0 (x3_2.set (x6_2 : Int).toNat (Go.bits .or .u16 (rd x3_2 x6_2) (ji20))) x4_1 t211 (wrap64 (x6_2 + 1))) = some r := by first | (rw [hji20] at H; exact H) | (simp only [hji20] at H ⊢; exact H)
                              have hji20_ : (IntKind.u16.wrap (1 * 2 ^ min x4_1.toNat 16)) = ji20 := hji20
                              have hji20z : x4_1 ≤ 16 → (IntKind.u16.wrap (1 * 2 ^ x4_1.toNat)) = ji20 := shl_small hji20
                              have hji20u : (IntKind.u16.wrap (2 ^ min x4_1.toNat 16)) = ji20 := by have h_ := hji20_; rw [Int.one_mul] at h_; exact h_
                              have hji20v : x4_1 ≤ 16 → (IntKind.u16.wrap (2 ^ x4_1.toNat)) = ji20 := fun hle_ => by have h_ := hji20z hle_; rw [Int.one_mul] at h_; exact h_
                              obtain ⟨y216, hy216⟩ : ∃ y_ : List Int, y_ = (x3_2.set (x6_2 : Int).toNat (Go.bits .or .u16 (rd x3_2 x6_2) (ji20))) := ⟨_, rfl⟩
                              replace H : (tamisref06_Written.l1 k2 l0 y216 x4_1 t211 (wrap64 (x6_2 + 1))) = some r := by first | (rw [hy216]; with_reducible exact H) | (have H2_ := (Option.bind_some _ _).symm.trans H; rw [hy216]; with_reducible exact H2_) | (have H2_ := (Option.bind_some _ _).symm.trans H; with_reducible exact H2_) | with_reducible exact H | (rw [hy216]; exact H) | exact H
                              have Ny216 := Aside0.mk hy216
                              clear hy216
                              have H' := Aside0.mk H
                              clear H
                              obtain ⟨Ao22, co22, eo22⟩ := Kd.R_slice HO_5.out
                              subst eo22
                              have p214 : 0 ≤ (x6_2 : Int) := of_decide_eq_true (by first | (with_reducible assumption) | assumption)
                              have q214 : x6_2 < (t211.length : Int) := of_decide_eq_true (by first | (with_reducible assumption) | assumption)
                              obtain ⟨ad214, e214, hx214_0⟩ := Kd.at_bool (Kd.R_reads' HO_5.out).2.2 x6_2 p214 q214
                              (try rw [← Nbq15.out] at hx214_0)
                              cases e214
                              replace p214 := eq_true p214
                              replace q214 := eq_true q214
                              try go_wp2
                              have n0_ := Aside0.mk (Kd.R_drew HO_3.out)
                              have n1_ := Aside0.mk (Kd.R_drew HO_5.out)
                              have n2_ := Aside0.mk (below_drew1 HB.out)
                              clear HO_3
                              clear HO_5
                              clear HB
                              have HO_3 := n0_
                              have HO_5 := n1_
                              have HB := n2_
                              clear n0_ n1_ n2_
                              obtain ⟨Ao24, co24, eo24⟩ := Kd.R_slice HO_3.out
                              (first | subst eo24 | (injection eo24 with f1_ f2_ f3_; have f4_ := f1_.symm; have f5_ := f3_.symm; clear f1_ f2_ f3_; subst f4_; subst f5_))
                              have p215 : 0 ≤ (x6_2 : Int) := of_decide_eq_true (by first | (with_reducible assumption) | assumption)
                              have q215 : x6_2 < (x3_2.length : Int) := of_decide_eq_true (by first | (with_reducible assumption) | assumption)
                              obtain ⟨ad215, e215, hx215_0⟩ := Kd.at_int (Kd.R_reads' HO_3.out).2.2 x6_2 p215 q215
                              cases e215
                              replace p215 := eq_true p215
                              replace q215 := eq_true q215
                              have p21 : 0 ≤ (x6_2 : Int) := of_decide_eq_true (by first | (with_reducible assumption) | assumption)
                              have q21 : (x6_2 : Int) < ((x3_2.length : Int) : Int) := of_decide_eq_true (by first | (with_reducible assumption) | assumption)
                              obtain ⟨go21, co21, eo21, gb21, gl21, cl21, HG21⟩ := Kd.R_form HO_3.out (by omega)
                              (first | cases eo21 | (injection eo21 with ea_ en_ ec_; (first | subst ea_ | (injection ea_ with ea_; subst ea_)); subst ec_; clear en_))
                              have GB21 := Aside0.mk gb21
                              have GG21 := Aside0.mk HG21
                              clear gb21 gl21 HG21
                              (first | simp only [add_plain] at hx215_0 | skip)
                              obtain ⟨hx21_0, hf21_0⟩ := Kd.R_celln 0 HO_3.out (x6_2 : Int) p21 q21
                              replace p21 := eq_true p21
                              replace q21 := eq_true q21
                              have HP25 := Kd.R_putn HO_3.out (x6_2 : Int) (Go.bits .or .u16 (rd x3_2 x6_2) (ji20))
                              rw [← Ny216.out] at HP25
                              have HQ25 := Aside0.mk HP25
                              clear HP25
                              refine start_ (n := 9) (S := fun w' => w'.cell? ⟨go21, (x6_2).toNat, none⟩ = some (.int .u16 (rd x3_2 x6_2))) (ds := [8]) #[false, false, false, false, false, false, false, false, false] (by kernel_rfl) rfl rfl (hx215_0) (fun hHeld => ?_); refine with_tabW tamisref06_Written.tab12 tamisref06_Written.bits12 (fun HT_ HW_ => ?_)
                              generalize wr.drew = w23 at HO_3 HO_5 HB GG21 HQ25 hf21_0 hx215_0 hx21_0 hHeld ⊢
                              refine pure_ (i := 0) (N := some 31) (v := ?_) (a' := ?_) #[true, false, false, false, false, false, false, false, false] rfl rfl (any_of HT_.out (by kernel_rfl)) (fun _ _ _ h => h) (Or.inl ⟨by rfl, ?_⟩) ?_ ?_
                              rotate_left
                              · intro w'
                                go_simp
                                with_reducible rfl
                              rotate_left
                              · simp only [Act.put, List.setIfInBounds_toArray, List.set_cons_zero, List.set_cons_succ, i64_w, i32_w]
                                rfl
                              refine pure_ (i := 1) (N := some 32) (v := ?_) (a' := ?_) #[true, true, false, false, false, false, false, false, false] rfl rfl (any_of HT_.out (by kernel_rfl)) (fun _ _ _ h => h) (Or.inl ⟨by rfl, ?_⟩) ?_ ?_
                              rotate_left
                              · intro w'
                                go_simp
                                with_reducible rfl
                              rotate_left
                              · simp only [Act.put, List.setIfInBounds_toArray, List.set_cons_zero, List.set_cons_succ, i64_w, i32_w]
                                rfl
                              refine pure_ (i := 2) (N := some 33) (v := ?_) (a' := ?_) #[true, true, true, false, false, false, false, false, false] rfl rfl (any_of HT_.out (by kernel_rfl)) (fun _ _ _ h => h) (Or.inl ⟨by rfl, ?_⟩) ?_ ?_
                              rotate_left
                              · intro w'
                                go_simp
                                with_reducible rfl
                              rotate_left
                              · simp only [Act.put, List.setIfInBounds_toArray, List.set_cons_zero, List.set_cons_succ, i64_w, i32_w]
                                rfl
                              refine pure_ (i := 4) (N := some 35) (v := ?_) (a' := ?_) #[true, true, true, false, true, false, false, false, false] rfl rfl (any_of HT_.out (by kernel_rfl)) (fun _ _ _ h => h) (Or.inl ⟨by rfl, ?_⟩) ?_ ?_
                              rotate_left
                              · intro w'
                                go_simp
                                with_reducible rfl
                              rotate_left
                              · simp only [Act.put, List.setIfInBounds_toArray, List.set_cons_zero, List.set_cons_succ, i64_w, i32_w]
                                rfl
                              refine pure_ (i := 5) (N := some 36) (v := ?_) (a' := ?_) #[true, true, true, false, true, true, false, false, false] rfl rfl (any_of HT_.out (by kernel_rfl)) (fun _ _ _ h => h) (Or.inl ⟨by rfl, ?_⟩) ?_ ?_
                              rotate_left
                              · intro w'
                                go_simp
                                with_reducible rfl
                              rotate_left
                              · simp only [Act.put, List.setIfInBounds_toArray, List.set_cons_zero, List.set_cons_succ, i64_w, i32_w]
                                rfl
                              refine take_ (i := 3) (N := some 34) (v := ?_) (a' := ?_) #[true, true, true, true, true, true, false, false, false] rfl rfl (take_ofW HT_.out HW_.out (by kernel_rfl)) (fun _ _ _ h => h) (Or.inl ⟨by rfl, ?_⟩) hHeld ?_ ?_
                              rotate_left
                              · intro w' s0
                                go_simp
                                with_reducible rfl
                              rotate_left
                              · simp only [Act.put, List.setIfInBounds_toArray, List.set_cons_zero, List.set_cons_succ, i64_w, i32_w]
                                rfl
                              refine pure_ (i := 6) (N := some 37) (v := ?_) (a' := ?_) #[true, true, true, true, true, true, true, false, false] rfl rfl (any_of HT_.out (by kernel_rfl)) (fun _ _ _ h => h) (Or.inl ⟨by rfl, ?_⟩) ?_ ?_
                              rotate_left
                              · intro w'
                                go_simp
                                with_reducible rfl
                              rotate_left
                              · simp only [Act.put, List.setIfInBounds_toArray, List.set_cons_zero, List.set_cons_succ, i64_w, i32_w]
                                rfl
                              refine pure_ (i := 7) (N := some 38) (v := ?_) (a' := ?_) #[true, true, true, true, true, true, true, true, false] rfl rfl (any_of HT_.out (by kernel_rfl)) (fun _ _ _ h => h) (Or.inl ⟨by rfl, ?_⟩) ?_ ?_
                              rotate_left
                              · intro w'
                                go_simp
                                with_reducible rfl
                              rotate_left
                              · simp only [Act.put, List.setIfInBounds_toArray, List.set_cons_zero, List.set_cons_succ, i64_w, i32_w]
                                rfl
                              refine last_ (i := 8) (N := none) #[true, true, true, true, true, true, true, true, true] rfl rfl (one_of HT_.out (by kernel_rfl)) (by decide) (fun K hK => ?_)
                              refine skip_ (w1 := ?_) (by rfl) rfl ?_ ?_
                              rotate_left
                              · go_simp
                                rfl
                              refine hK.out _ _ ?_
                              clear hK K
                              refine done_ (done_of HT_.out (by kernel_rfl)) ?_
                              try go_wp2
                              go_roundg k2
                              case measure => have := HK1.out; have := HK2.out; omega
                              case rel => exact ⟨(y216), (wrap64 (x6_2 + 1)), (by first | rfl | (simp; done) | (simp [*]; done)), H', ⟨by have := HK1.out; have := HK2.out; omega⟩, ⟨by (with_reducible repeat (first | apply Kd.R_alloc | apply Kd.R_drewN | apply Kd.R_drew)); exact HQ25.out⟩, ⟨by (with_reducible repeat (first | apply Kd.R_alloc | apply Kd.R_drewN | apply Kd.R_drew)); exact Kd.R_mono (Kd.R_far (p := ⟨go21, (x6_2 : Int).toNat, none⟩) (Kd.R_types HO_5.out GG21.out (by decide)) (fun _ hk => hk.2) (.int .u16 (Go.bits .or .u16 (rd x3_2 x6_2) (ji20)))) (fun _ hk => trivial)⟩, ⟨by repeat (first | (with_reducible first | exact HB.out | apply below_alloc | apply pw_below_drewN | apply below_drew1 | refine below_set ?_ GB21.out) | exact HB.out)⟩⟩
                            · rw [if_neg c19] at H
                              exact absurd H (by simp)
                          · rw [if_neg c18] at H
                            exact absurd H (by simp)
                      · rw [if_neg c14] at H
                        exact absurd H (by simp)
                    · rw [if_neg c13] at H
                      exact absurd H (by simp)
                  · rw [if_neg c12] at H
                    have c12b0 : decide (x6_2 < (l0.length : Int)) = false := decide_eq_false c12
                    clear c12
                    have H' := Aside0.mk H
                    clear H
                    go_wp2
                    go_roundg k2
                    case measure => have := HK1.out; have := HK2.out; omega
                    case rel => exact ⟨(x3_2), (wrap64 (x4_1 + 1)), (by first | rfl | (simp; done) | (simp [*]; done)), H', ⟨by have := HK1.out; have := HK2.out; omega⟩, ⟨by (with_reducible repeat (first | apply Kd.R_alloc | apply Kd.R_drewN | apply Kd.R_drew)); exact HO_3.out⟩, ⟨by repeat (first | (with_reducible first | exact HB.out | apply below_alloc | apply pw_below_drewN | apply below_drew1) | exact HB.out)⟩⟩
            · rw [if_neg c9] at H
              have c9b0 : decide (x4_1 < 16) = false := decide_eq_false c9
              clear c9
              obtain rfl := Option.some.inj H
              go_wp2
              go_ret
              exact ⟨_, by first | rfl | (simp [errW_none, errW_some] <;> rfl) | (simp [*, errW_none, errW_some] <;> rfl), by (with_reducible repeat (first | apply Kd.R_alloc | apply Kd.R_drewN | apply Kd.R_drew)); exact HO_3.out, by repeat (first | (with_reducible first | exact HB.out | apply below_alloc | apply pw_below_drewN | apply below_drew1) | exact HB.out)⟩
      · rw [if_neg c5] at H
        exact absurd H (by simp)
    · rw [if_neg c4] at H
      exact absurd H (by simp)
  · replace c3 := Bool.eq_false_iff.mpr c3
    subst c3
    have H1 : (some ([] : List Int)) = some r := by rw [if_neg (show ¬ (false = true) by decide)] at H; exact H
    clear H
    have H := H1
    clear H1
    obtain rfl := Option.some.inj H
    go_enter Try.func44, Try.ntmps44
    go_wp2_with (first | ((with_reducible refine gate_callee (f := 83) rfl ?_); refine goesL_ (some 8) rfl rfl Try.func83 (by kernel_rfl) rfl #[.slice A0 l0.length c0] rfl (by (try simp only [List.map_toArray, List.map_cons, List.map_nil]); first | done | rfl | (simp only [List.length_drop, List.length_take]; rfl)) ?_; (with_reducible refine (tamisref06_whole.calls k _ _ l0 false _ ?side1 ?side2 A2.out).mono ?_); (case side1 => repeat (first | exact HR0.out | (with_reducible refine Kd.C_alloc ?_ _) | (with_reducible refine Kd.C_drewN ?_ _) | (with_reducible refine Kd.C_drew ?_))); (case side2 => exact HC0.out); rintro e w26 ⟨rfl, hb⟩; refine ⟨_, rfl, ?_⟩; have n0_ := Aside0.mk (below_step (by repeat (first | (with_reducible first | exact HB.out | apply below_alloc | apply pw_below_drewN | apply below_drew1) | exact HB.out)) hb); clear HB; have HB := n0_; clear n0_; (try clear hb); (try clear hb2); (try clear hk); (try clear hi)))
    go_ret
    exact ⟨_, by first | rfl | (simp [errW_none, errW_some] <;> rfl) | (simp [*, errW_none, errW_some] <;> rfl), by first | exact Kd.R_nil _ _ _ _ _ | exact Kd.N_nil _ _ _ _ _ | exact Kd.V_nil _ _ _ _ _ | exact Kd.Q_nil _ _ _ _ _ | exact Kd.S_nil _ _ _ _ _, by repeat (first | (with_reducible first | exact HB.out | apply below_alloc | apply pw_below_drewN | apply below_drew1) | exact HB.out)⟩

end Go.Proofs.Ytmjpibeiglicdaa.X
