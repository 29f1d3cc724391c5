/- Functions of the program as plain Lean functions, and their contracts; written by a program out of the translation. -/
import Derived.Test.YtmjpibeiglicdaaX0
import Derived.Test.YtmjpibeiglicdaaX1
import Derived.Test.YtmjpibeiglicdaaX2
namespace Go.Proofs.Ytmjpibeiglicdaa.X
open Go.RowKit Go.Proofs.YtmjpibeiglicdaaW.PrintWords Go.Proofs.YtmjpibeiglicdaaW.PrintLast Go.Proofs.YtmjpibeiglicdaaW.PrintMore
attribute [local go_sem] max2_int min2_int max_two min_two max_three min_three max_four min_four   -- for this text's walks alone
set_option linter.unusedVariables false
set_option linter.unusedSimpArgs false

/-! ### verify_Written: function 43 -/
mutual
def verify_Written.l0 : Nat → List (S56) → List Int → Int → Int → Option (List Int)
  | 0, _, _, _, _ => none
  | k + 1, x0, x5, x25, x26 => if x26 < x25 then (if 0 ≤ x26 then (if x26 < (x5.length : Int) then (verify_Written.l0 k x0 (x5.set (x26 : Int).toNat 65535) x25 (wrap64 (x26 + 1))) else (none)) else (none)) else (if 0 < (x5.length : Int) then (verify_Written.l1 k x0 (x5.set (0 : Int).toNat 0) x0 (x0.length : Int) 0) else (none))
def verify_Written.l1 : Nat → List (S56) → List Int → List (S56) → Int → Int → Option (List Int)
  | 0, _, _, _, _, _ => none
  | k + 1, x0, x5, x35, x36, x37 => if x37 < x36 then (if 0 ≤ x37 then (if x37 < (x35.length : Int) then (if x37 < (x5.length : Int) then ((code_Kind.f ((rd_T56 x35 x37).f0)).bind fun t141 => (if t141 = 8 then (verify_Written.j2 k x0 x5 x37 (rd x5 x37) x35 x36 x37 true ((rd_T56 x35 x37).f0) ((rd_T56 x35 x37).f1) ((rd_T56 x35 x37).f2) ((rd_T56 x35 x37).f3)) else (verify_Written.j2 k x0 x5 x37 (rd x5 x37) x35 x36 x37 (t141 == 9) ((rd_T56 x35 x37).f0) ((rd_T56 x35 x37).f1) ((rd_T56 x35 x37).f2) ((rd_T56 x35 x37).f3)))) else (none)) else (none)) else (none)) else (some x5)
def verify_Written.j2 : Nat → List (S56) → List Int → Int → Int → List (S56) → Int → Int → Bool → Int → Int → Int → Int → Option (List Int)
  | 0, _, _, _, _, _, _, _, _, _, _, _, _ => none
  | k + 1, x0, x5, x7, x9, x35, x36, x37, x54, x140000, x140001, x140002, x140003 => if x54 = true then (if 0 ≤ x140003 then (verify_Written.j3 k x0 x5 x7 (Go.bits .or .u16 x9 (shl .u16 1 x140003)) x35 x36 x37 x140000 x140001 x140002 x140003) else (none)) else (verify_Written.j3 k x0 x5 x7 x9 x35 x36 x37 x140000 x140001 x140002 x140003)
def verify_Written.j3 : Nat → List (S56) → List Int → Int → Int → List (S56) → Int → Int → Int → Int → Int → Int → Option (List Int)
  | 0, _, _, _, _, _, _, _, _, _, _, _ => none
  | k + 1, x0, x5, x7, x9, x35, x36, x37, x140000, x140001, x140002, x140003 => (verify_jumps.f x140000 x140001 x140002 x140003).bind fun t142 => (verify_Written.l2 k x0 x5 x7 x9 x35 x36 x37 t142 (t142.length : Int) 0)
def verify_Written.l2 : Nat → List (S56) → List Int → Int → Int → List (S56) → Int → Int → List Int → Int → Int → Option (List Int)
  | 0, _, _, _, _, _, _, _, _, _, _ => none
  | k + 1, x0, x5, x7, x9, x35, x36, x37, x61, x62, x63 => if x63 < x62 then (if 0 ≤ x63 then (if x63 < (x61.length : Int) then (if (wrap64 ((wrap64 (x7 + 1)) + (wrap64 (rd x61 x63)))) < (x0.length : Int) then (if 0 ≤ (wrap64 ((wrap64 (x7 + 1)) + (wrap64 (rd x61 x63)))) then (if (wrap64 ((wrap64 (x7 + 1)) + (wrap64 (rd x61 x63)))) < (x5.length : Int) then (verify_Written.l2 k x0 (x5.set ((wrap64 ((wrap64 (x7 + 1)) + (wrap64 (rd x61 x63)))) : Int).toNat (Go.bits .and .u16 (rd x5 (wrap64 ((wrap64 (x7 + 1)) + (wrap64 (rd x61 x63))))) x9)) x7 x9 x35 x36 x37 x61 x62 (wrap64 (x63 + 1))) else (none)) else (none)) else (verify_Written.l2 k x0 x5 x7 x9 x35 x36 x37 x61 x62 (wrap64 (x63 + 1)))) else (none)) else (none)) else (verify_Written.l1 k x0 x5 x35 x36 (wrap64 (x37 + 1)))
end
def verify_Written.f (k : Nat) (l0 : List (S56)) : Option (List Int) := (verify_whole.f k l0).bind fun bt131 => (if bt131.2 = 0 then (if 0 ≤ (l0.length : Int) then (if ((l0.length : Int) : Int).toNat ≤ 140737488355328 then ((some (List.replicate ((l0.length : Int) : Int).toNat 0 : List Int)).bind fun y133 => (verify_Written.l0 k l0 y133 (y133.length : Int) 0)) else (none)) else (none)) else (some ([] : List Int)))
theorem verify_Written.mono_l : ∀ k, (∀ y0 y1 y2 y3, LeO (verify_Written.l0 k y0 y1 y2 y3) (verify_Written.l0 (k + 1) y0 y1 y2 y3)) ∧ (∀ y0 y1 y2 y3 y4, LeO (verify_Written.l1 k y0 y1 y2 y3 y4) (verify_Written.l1 (k + 1) y0 y1 y2 y3 y4)) ∧ (∀ y0 y1 y2 y3 y4 y5 y6 y7 y8 y9 y10 y11, LeO (verify_Written.j2 k y0 y1 y2 y3 y4 y5 y6 y7 y8 y9 y10 y11) (verify_Written.j2 (k + 1) y0 y1 y2 y3 y4 y5 y6 y7 y8 y9 y10 y11)) ∧ (∀ y0 y1 y2 y3 y4 y5 y6 y7 y8 y9 y10, LeO (verify_Written.j3 k y0 y1 y2 y3 y4 y5 y6 y7 y8 y9 y10) (verify_Written.j3 (k + 1) y0 y1 y2 y3 y4 y5 y6 y7 y8 y9 y10)) ∧ (∀ y0 y1 y2 y3 y4 y5 y6 y7 y8 y9, LeO (verify_Written.l2 k y0 y1 y2 y3 y4 y5 y6 y7 y8 y9) (verify_Written.l2 (k + 1) y0 y1 y2 y3 y4 y5 y6 y7 y8 y9))
  | 0 => ⟨fun _ _ _ _ r h => by simp [verify_Written.l0] at h, fun _ _ _ _ _ r h => by simp [verify_Written.l1] at h, fun _ _ _ _ _ _ _ _ _ _ _ _ r h => by simp [verify_Written.j2] at h, fun _ _ _ _ _ _ _ _ _ _ _ r h => by simp [verify_Written.j3] at h, fun _ _ _ _ _ _ _ _ _ _ r h => by simp [verify_Written.l2] at h⟩
  | k + 1 => by
    obtain ⟨ih0, ih1, ih2, ih3, ih4⟩ := verify_Written.mono_l k
    refine ⟨?_, ?_, ?_, ?_, ?_⟩
    · intro y0 y1 y2 y3
      unfold verify_Written.l0
      repeat' first
      | (with_reducible exact ih0 _ _ _ _)
      | (with_reducible exact ih1 _ _ _ _ _)
      | (with_reducible exact ih2 _ _ _ _ _ _ _ _ _ _ _ _)
      | (with_reducible exact ih3 _ _ _ _ _ _ _ _ _ _ _)
      | (with_reducible exact ih4 _ _ _ _ _ _ _ _ _ _)
      | (with_reducible exact verify_whole.mono _ _)
      | (with_reducible exact LeO.refl _)
      | (with_reducible exact LeO.none _)
      | (with_reducible refine LeO.ite ?_ ?_)
      | (with_reducible refine LeO.bind ?_ (fun _ => ?_))
      | exact ih0 _ _ _ _
      | exact ih1 _ _ _ _ _
      | exact ih2 _ _ _ _ _ _ _ _ _ _ _ _
      | exact ih3 _ _ _ _ _ _ _ _ _ _ _
      | exact ih4 _ _ _ _ _ _ _ _ _ _
      | exact verify_whole.mono _ _
      | exact LeO.none _
      | refine LeO.ite ?_ ?_
      | refine LeO.bind ?_ (fun _ => ?_)
    · intro y0 y1 y2 y3 y4
      unfold verify_Written.l1
      repeat' first
      | (with_reducible exact ih0 _ _ _ _)
      | (with_reducible exact ih1 _ _ _ _ _)
      | (with_reducible exact ih2 _ _ _ _ _ _ _ _ _ _ _ _)
      | (with_reducible exact ih3 _ _ _ _ _ _ _ _ _ _ _)
      | (with_reducible exact ih4 _ _ _ _ _ _ _ _ _ _)
      | (with_reducible exact verify_whole.mono _ _)
      | (with_reducible exact LeO.refl _)
      | (with_reducible exact LeO.none _)
      | (with_reducible refine LeO.ite ?_ ?_)
      | (with_reducible refine LeO.bind ?_ (fun _ => ?_))
      | exact ih0 _ _ _ _
      | exact ih1 _ _ _ _ _
      | exact ih2 _ _ _ _ _ _ _ _ _ _ _ _
      | exact ih3 _ _ _ _ _ _ _ _ _ _ _
      | exact ih4 _ _ _ _ _ _ _ _ _ _
      | exact verify_whole.mono _ _
      | exact LeO.none _
      | refine LeO.ite ?_ ?_
      | refine LeO.bind ?_ (fun _ => ?_)
    · intro y0 y1 y2 y3 y4 y5 y6 y7 y8 y9 y10 y11
      unfold verify_Written.j2
      repeat' first
      | (with_reducible exact ih0 _ _ _ _)
      | (with_reducible exact ih1 _ _ _ _ _)
      | (with_reducible exact ih2 _ _ _ _ _ _ _ _ _ _ _ _)
      | (with_reducible exact ih3 _ _ _ _ _ _ _ _ _ _ _)
      | (with_reducible exact ih4 _ _ _ _ _ _ _ _ _ _)
      | (with_reducible exact verify_whole.mono _ _)
      | (with_reducible exact LeO.refl _)
      | (with_reducible exact LeO.none _)
      | (with_reducible refine LeO.ite ?_ ?_)
      | (with_reducible refine LeO.bind ?_ (fun _ => ?_))
      | exact ih0 _ _ _ _
      | exact ih1 _ _ _ _ _
      | exact ih2 _ _ _ _ _ _ _ _ _ _ _ _
      | exact ih3 _ _ _ _ _ _ _ _ _ _ _
      | exact ih4 _ _ _ _ _ _ _ _ _ _
      | exact verify_whole.mono _ _
      | exact LeO.none _
      | refine LeO.ite ?_ ?_
      | refine LeO.bind ?_ (fun _ => ?_)
    · intro y0 y1 y2 y3 y4 y5 y6 y7 y8 y9 y10
      unfold verify_Written.j3
      repeat' first
      | (with_reducible exact ih0 _ _ _ _)
      | (with_reducible exact ih1 _ _ _ _ _)
      | (with_reducible exact ih2 _ _ _ _ _ _ _ _ _ _ _ _)
      | (with_reducible exact ih3 _ _ _ _ _ _ _ _ _ _ _)
      | (with_reducible exact ih4 _ _ _ _ _ _ _ _ _ _)
      | (with_reducible exact verify_whole.mono _ _)
      | (with_reducible exact LeO.refl _)
      | (with_reducible exact LeO.none _)
      | (with_reducible refine LeO.ite ?_ ?_)
      | (with_reducible refine LeO.bind ?_ (fun _ => ?_))
      | exact ih0 _ _ _ _
      | exact ih1 _ _ _ _ _
      | exact ih2 _ _ _ _ _ _ _ _ _ _ _ _
      | exact ih3 _ _ _ _ _ _ _ _ _ _ _
      | exact ih4 _ _ _ _ _ _ _ _ _ _
      | exact verify_whole.mono _ _
      | exact LeO.none _
      | refine LeO.ite ?_ ?_
      | refine LeO.bind ?_ (fun _ => ?_)
    · intro y0 y1 y2 y3 y4 y5 y6 y7 y8 y9
      unfold verify_Written.l2
      repeat' first
      | (with_reducible exact ih0 _ _ _ _)
      | (with_reducible exact ih1 _ _ _ _ _)
      | (with_reducible exact ih2 _ _ _ _ _ _ _ _ _ _ _ _)
      | (with_reducible exact ih3 _ _ _ _ _ _ _ _ _ _ _)
      | (with_reducible exact ih4 _ _ _ _ _ _ _ _ _ _)
      | (with_reducible exact verify_whole.mono _ _)
      | (with_reducible exact LeO.refl _)
      | (with_reducible exact LeO.none _)
      | (with_reducible refine LeO.ite ?_ ?_)
      | (with_reducible refine LeO.bind ?_ (fun _ => ?_))
      | exact ih0 _ _ _ _
      | exact ih1 _ _ _ _ _
      | exact ih2 _ _ _ _ _ _ _ _ _ _ _ _
      | exact ih3 _ _ _ _ _ _ _ _ _ _ _
      | exact ih4 _ _ _ _ _ _ _ _ _ _
      | exact verify_whole.mono _ _
      | exact LeO.none _
      | refine LeO.ite ?_ ?_
      | refine LeO.bind ?_ (fun _ => ?_)
theorem verify_Written.mono : ∀ a0 k, LeO (verify_Written.f k a0) (verify_Written.f (k + 1) a0) := by
  intro a0 k
  obtain ⟨ih0, ih1, ih2, ih3, ih4⟩ := verify_Written.mono_l k
  unfold verify_Written.f
  repeat' first
      | (with_reducible exact ih0 _ _ _ _)
      | (with_reducible exact ih1 _ _ _ _ _)
      | (with_reducible exact ih2 _ _ _ _ _ _ _ _ _ _ _ _)
      | (with_reducible exact ih3 _ _ _ _ _ _ _ _ _ _ _)
      | (with_reducible exact ih4 _ _ _ _ _ _ _ _ _ _)
      | (with_reducible exact verify_whole.mono _ _)
      | (with_reducible exact LeO.refl _)
      | (with_reducible exact LeO.none _)
      | (with_reducible refine LeO.ite ?_ ?_)
      | (with_reducible refine LeO.bind ?_ (fun _ => ?_))
      | exact ih0 _ _ _ _
      | exact ih1 _ _ _ _ _
      | exact ih2 _ _ _ _ _ _ _ _ _ _ _ _
      | exact ih3 _ _ _ _ _ _ _ _ _ _ _
      | exact ih4 _ _ _ _ _ _ _ _ _ _
      | exact verify_whole.mono _ _
      | exact LeO.none _
      | refine LeO.ite ?_ ?_
      | refine LeO.bind ?_ (fun _ => ?_)
set_option maxHeartbeats 8000000 in
set_option maxRecDepth 100000 in
theorem verify_Written.calls (k : Nat) (A0 : Option Addr) (c0 : Nat) (l0 : List (S56)) (r : List Int) (w : World) (hr0 : Kd.C k56 w A0 l0.length l0) (hc0 : l0.length ≤ c0) (h : verify_Written.f k l0 = some r) :
    Calls Try.prog 43 #[.slice A0 l0.length c0] w fun e w' => ∃ v0_ : Value, e = .returned (v0_) ∧ Kd.R (Kd.int .u16) 35 w' w.heap.size (fun _ => True) v0_ r ∧ Below w.heap.size w w' := by
  have hu56 := Try.underlying56
  have HR0 := Aside0.mk hr0
  have HC0 := Aside0.mk hc0
  clear hr0 hc0
  have HB := Aside0.mk (Below.refl w.heap.size w)
  have H : ((verify_whole.f k l0).bind fun bt131 => (if bt131.2 = 0 then (if 0 ≤ (l0.length : Int) then (if ((l0.length : Int) : Int).toNat ≤ 140737488355328 then ((some (List.replicate ((l0.length : Int) : Int).toNat 0 : List Int)).bind fun y133 => (verify_Written.l0 k l0 y133 (y133.length : Int) 0)) else (none)) else (none)) else (some ([] : List Int)))) = some r := h
  clear h
  replace H := Option.bind_eq_some_iff.mp H
  obtain ⟨⟨t131, t132⟩, A20, H⟩ := H
  replace H : (if t132 = 0 then (if 0 ≤ (l0.length : Int) then (if ((l0.length : Int) : Int).toNat ≤ 140737488355328 then ((some (List.replicate ((l0.length : Int) : Int).toNat 0 : List Int)).bind fun y133 => (verify_Written.l0 k l0 y133 (y133.length : Int) 0)) else (none)) else (none)) else (some ([] : List Int))) = some r := H
  have A2 := Aside0.mk A20
  clear A20
  by_cases c3 : t132 = 0
  · rw [if_pos c3] at H
    have c3b0 : (t132 == 0) = true := beq_iff_eq.mpr c3
    have c3b1 : (t132 != 0) = false := bne_eq_false_iff_eq.mpr c3
    clear c3
    by_cases c4 : 0 ≤ (l0.length : Int)
    · rw [if_pos c4] at H
      have c4b0 := eq_true c4
      have c4b1 : decide (0 ≤ (l0.length : Int)) = true := decide_eq_true c4
      clear c4
      by_cases c5 : ((l0.length : Int) : Int).toNat ≤ 140737488355328
      · rw [if_pos c5] at H
        have c5b0 := eq_true c5
        have c5b1 : decide (((l0.length : Int) : Int).toNat ≤ 140737488355328) = true := decide_eq_true c5
        clear c5
        obtain ⟨y133, hy133⟩ : ∃ y_ : List Int, y_ = (List.replicate ((l0.length : Int) : Int).toNat 0) := ⟨_, rfl⟩
        replace H : (verify_Written.l0 k l0 y133 (y133.length : Int) 0) = some r := by first | (rw [hy133]; with_reducible exact H) | (have H2_ := (Option.bind_some _ _).symm.trans H; rw [hy133]; with_reducible exact H2_) | (have H2_ := (Option.bind_some _ _).symm.trans H; with_reducible exact H2_) | with_reducible exact H | (rw [hy133]; exact H) | exact H
        have Ny133 := Aside0.mk hy133
        clear hy133
        have H' := Aside0.mk H
        clear H
        go_enter Try.func43, Try.ntmps43
        go_wp2_with (first | ((with_reducible refine gate_callee (f := 76) rfl ?_); refine goesL_ (some 16) rfl rfl Try.func76 (by kernel_rfl) rfl #[.slice A0 l0.length c0] rfl (by (try simp only [List.map_toArray, List.map_cons, List.map_nil]); first | done | rfl | (simp only [List.length_drop, List.length_take]; rfl)) ?_; (with_reducible refine (verify_whole.calls k _ _ l0 t131 t132 _ ?side1 ?side2 A2.out).mono ?_); (case side1 => repeat (first | exact HR0.out | (with_reducible refine Kd.C_alloc ?_ _) | (with_reducible refine Kd.C_drewN ?_ _) | (with_reducible refine Kd.C_drew ?_))); (case side2 => exact HC0.out); rintro e w6 ⟨rfl, hb⟩; refine ⟨_, rfl, ?_⟩; have n0_ := Aside0.mk (below_step (by repeat (first | (with_reducible first | exact HB.out | apply below_alloc | apply pw_below_drewN | apply below_drew1) | exact HB.out)) hb); clear HB; have HB := n0_; clear n0_; (try clear hb); (try clear hb2); (try clear hk); (try clear hi)) | ((with_reducible refine gate_dst (N := 23) rfl ?_); refine Kd.R_make (Kd.int .u16) _ 35 rfl (N := 23) rfl 52 _ _ rfl (l0.length : Int) rfl rfl Try.underlying52 (.int .u16 0) 2 info35 rfl (by decide) (by omega) 0 (ok := fun _ => True) (okp := fun _ => True) rfl (fun _ hk => hk) trivial (of_decide_eq_true (by first | (with_reducible assumption) | assumption)) (Nat.le_trans (Nat.mul_le_mul_right _ (of_decide_eq_true (by first | (with_reducible assumption) | assumption) : (l0.length : Int).toNat ≤ 140737488355328)) (by omega)) (Below.refl _ _) (Nat.le_refl _) ?_; intro v134 w7 ho8 hb hg_ hnew_; clear hg_ hnew_; (first | rw [← Ny133.out] at ho8 | (simp only [Int.reduceToNat] at ho8; rw [← Ny133.out] at ho8)); have n0_ := Aside0.mk (Kd.R_lower ho8 (below_size (by repeat (first | (with_reducible first | exact HB.out | apply below_alloc | apply pw_below_drewN | apply below_drew1) | exact HB.out)))); have n1_ := Aside0.mk (below_step (by repeat (first | (with_reducible first | exact HB.out | apply below_alloc | apply pw_below_drewN | apply below_drew1) | exact HB.out)) hb); clear HB; have HO135 := n0_; have HB := n1_; clear n0_ n1_; clear hb ho8; obtain ⟨Ao9, co9, eo9⟩ := Kd.R_slice HO135.out; subst eo9))
        go_loopg [26] k (fun kq v26 w' => ∃ (x5_1 : List Int) (x26_1 : Int), v26 = .int .i64 x26_1 ∧ Aside0 (verify_Written.l0 kq l0 x5_1 (y133.length : Int) x26_1 = some r) ∧ Aside0 (kq ≤ k) ∧ Aside0 (Kd.R (Kd.int .u16) 35 w' w.heap.size (fun _ => True) (.slice Ao9 y133.length co9) x5_1) ∧ Aside0 (Below w.heap.size w w'))
        case atStart => exact ⟨(y133), (0), (by first | rfl | (simp; done) | (simp [*]; done)), H', ⟨Nat.le_refl _⟩, ⟨by (with_reducible repeat (first | apply Kd.R_alloc | apply Kd.R_drewN | apply Kd.R_drew)); exact HO135.out⟩, ⟨by repeat (first | (with_reducible first | exact HB.out | apply below_alloc | apply pw_below_drewN | apply below_drew1) | exact HB.out)⟩⟩
        case round =>
          clear H'
          try clear p2
          try clear c3
          try clear c3b0
          try clear c3b1
          try clear c4
          try clear c4b0
          try clear c4b1
          try clear c5
          try clear c5b0
          try clear c5b1
          try clear c7
          obtain ⟨x5_1, x26_1, rfl, HA, HK1, HO_5, HB⟩ := hrel
          have hl5_1 := (Kd.R_reads' HO_5.out).1
          rw [hl5_1] at HO_5
          (try simp only [hl5_1])
          cases gk with
          | zero => exact absurd HA.out (by simp [verify_Written.l0])
          | succ k1 =>
            have H := HA.out
            clear HA
            simp only [verify_Written.l0] at H
            by_cases c10 : x26_1 < (y133.length : Int)
            · rw [if_pos c10] at H
              have c10b0 : decide (x26_1 < (y133.length : Int)) = true := decide_eq_true c10
              clear c10
              by_cases c11 : 0 ≤ x26_1
              · rw [if_pos c11] at H
                have c11b0 : decide (0 ≤ x26_1) = true := decide_eq_true c11
                clear c11
                by_cases c12 : x26_1 < (x5_1.length : Int)
                · rw [if_pos c12] at H
                  have c12b0 : decide (x26_1 < (x5_1.length : Int)) = true := decide_eq_true c12
                  clear c12
                  obtain ⟨y136, hy136⟩ : ∃ y_ : List Int, y_ = (x5_1.set (x26_1 : Int).toNat 65535) := ⟨_, rfl⟩
                  replace H : (verify_Written.l0 k1 l0 y136 (y133.length : Int) (wrap64 (x26_1 + 1))) = some r := by first | (rw [hy136]; with_reducible exact H) | (have H2_ := (Option.bind_some _ _).symm.trans H; rw [hy136]; with_reducible exact H2_) | (have H2_ := (Option.bind_some _ _).symm.trans H; with_reducible exact H2_) | with_reducible exact H | (rw [hy136]; exact H) | exact H
                  have Ny136 := Aside0.mk hy136
                  clear hy136
                  have H' := Aside0.mk H
                  clear H
                  have p13 : 0 ≤ (x26_1 : Int) := of_decide_eq_true (by first | (with_reducible assumption) | assumption)
                  have q13 : (x26_1 : Int) < ((x5_1.length : Int) : Int) := of_decide_eq_true (by first | (with_reducible assumption) | assumption)
                  obtain ⟨go13, co13, eo13, gb13, gl13, cl13, HG13⟩ := Kd.R_form HO_5.out (by omega)
                  (first | cases eo13 | (injection eo13 with ea_ en_ ec_; (first | subst ea_ | (injection ea_ with ea_; subst ea_)); subst ec_; clear en_))
                  have GB13 := Aside0.mk gb13
                  have GG13 := Aside0.mk HG13
                  clear gb13 gl13 HG13
                  obtain ⟨hx13_0, hf13_0⟩ := Kd.R_celln 0 HO_5.out (x26_1 : Int) p13 q13
                  replace p13 := eq_true p13
                  replace q13 := eq_true q13
                  have HP14 := Kd.R_putg HO_5.out (x26_1 : Int) 65535
                  go_wp2_with (first | ((with_reducible refine gate_store (t := 35) (p := 31) rfl ?_); refine store_event (t := 35) (p := 31) (v := ?vo_w15) (w1 := (wr.setCell ⟨go13, (x26_1 : Int).toNat, none⟩ (.int .u16 65535))) ?hg ?ho ?hn ?hr ?_; (case ho => rfl); (case hg => rfl); (case hn => rfl); (case hr => first | (go_simp; done) | (go_simp; rfl)); intro w15 hw; have hg : wr.grownBy w15 (some go13) := (by rw [hw]; exact HP14.2); have hp_ : Kd.R (Kd.int .u16) 35 w15 w.heap.size (fun _ => True) (.slice (some ⟨go13, 0, none⟩) x5_1.length co9) y136 := (by rw [hw, Ny136.out]; exact HP14.1); clear HP14; have n0_ := Aside0.mk (hp_); have n1_ := Aside0.mk ((by rw [hw]; exact below_set (HB.out) GB13.out : Below w.heap.size w w15)); clear HO_5; clear HB; have HO_5 := n0_; have HB := n1_; clear n0_ n1_; clear hg hw hp_))
                  (try simp only [← hl5_1])
                  go_roundg k1
                  case measure => have := HK1.out; omega
                  case rel => exact ⟨(y136), (wrap64 (x26_1 + 1)), (by first | rfl | (simp; done) | (simp [*]; done)), H', ⟨by have := HK1.out; omega⟩, ⟨by (try simp only [hl5_1]); (with_reducible repeat (first | apply Kd.R_alloc | apply Kd.R_drewN | apply Kd.R_drew)); exact HO_5.out⟩, ⟨by repeat (first | (with_reducible first | exact HB.out | apply below_alloc | apply pw_below_drewN | apply below_drew1) | exact HB.out)⟩⟩
                · rw [if_neg c12] at H
                  exact absurd H (by simp)
              · rw [if_neg c11] at H
                exact absurd H (by simp)
            · rw [if_neg c10] at H
              have c10b0 : decide (x26_1 < (y133.length : Int)) = false := decide_eq_false c10
              have c10b9 : decide (x26_1 < (x5_1.length : Int)) = false := by rw [← hl5_1]; exact c10b0
              clear c10
              by_cases c16 : 0 < (x5_1.length : Int)
              · rw [if_pos c16] at H
                have c16b0 : decide (0 < (x5_1.length : Int)) = true := decide_eq_true c16
                have c16b1 : decide (0 < x5_1.length) = true := decide_eq_true (by omega)
                clear c16
                obtain ⟨y137, hy137⟩ : ∃ y_ : List Int, y_ = (x5_1.set (0 : Int).toNat 0) := ⟨_, rfl⟩
                replace H : (verify_Written.l1 k1 l0 y137 l0 (l0.length : Int) 0) = some r := by first | (rw [hy137]; with_reducible exact H) | (have H2_ := (Option.bind_some _ _).symm.trans H; rw [hy137]; with_reducible exact H2_) | (have H2_ := (Option.bind_some _ _).symm.trans H; with_reducible exact H2_) | with_reducible exact H | (rw [hy137]; exact H) | exact H
                have Ny137 := Aside0.mk hy137
                clear hy137
                have H' := Aside0.mk H
                clear H
                have p17 : 0 ≤ (0 : Int) := (by omega)
                have q17 : (0 : Int) < ((x5_1.length : Int) : Int) := of_decide_eq_true (by first | (with_reducible assumption) | assumption)
                have qi17 : (0 < x5_1.length) = True := eq_true (by omega)
                obtain ⟨go17, co17, eo17, gb17, gl17, cl17, HG17⟩ := Kd.R_form HO_5.out (by omega)
                (first | cases eo17 | (injection eo17 with ea_ en_ ec_; (first | subst ea_ | (injection ea_ with ea_; subst ea_)); subst ec_; clear en_))
                have GB17 := Aside0.mk gb17
                have GG17 := Aside0.mk HG17
                clear gb17 gl17 HG17
                obtain ⟨hx17_0, hf17_0⟩ := Kd.R_celln 0 HO_5.out (0 : Int) p17 q17
                (try rw [show ((0 : Int)).toNat = 0 from rfl] at hx17_0)
                (try simp only [Nat.reduceMul, Nat.zero_mul, Nat.zero_add, Nat.reduceAdd] at hx17_0)
                (try rw [show ((0 : Int)).toNat = 0 from rfl] at hf17_0)
                (try simp only [Nat.reduceMul, Nat.zero_mul, Nat.zero_add, Nat.reduceAdd] at hf17_0)
                replace p17 := eq_true p17
                replace q17 := eq_true q17
                have HP18 := Kd.R_putg HO_5.out (0 : Int) 0
                go_wp2_with (first | ((with_reducible refine gate_store (t := 35) (p := 34) rfl ?_); refine store_event (t := 35) (p := 34) (v := ?vo_w19) (w1 := (wr.setCell ⟨go17, (0 : Int).toNat, none⟩ (.int .u16 0))) ?hg ?ho ?hn ?hr ?_; (case ho => rfl); (case hg => rfl); (case hn => rfl); (case hr => first | (go_simp; done) | (go_simp; rfl)); intro w19 hw; have hg : wr.grownBy w19 (some go17) := (by rw [hw]; exact HP18.2); have hp_ : Kd.R (Kd.int .u16) 35 w19 w.heap.size (fun _ => True) (.slice (some ⟨go17, 0, none⟩) x5_1.length co9) y137 := (by rw [hw, Ny137.out]; exact HP18.1); clear HP18; have n0_ := Aside0.mk (hp_); have n1_ := Aside0.mk ((by rw [hw]; exact below_set (HB.out) GB17.out : Below w.heap.size w w19)); clear HO_5; clear HB; have HO_5 := n0_; have HB := n1_; clear n0_ n1_; clear hg hw hp_))
                go_loopg [37] k1 (fun kq v37 w' => ∃ (x5_2 : List Int) (x37_2 : Int), v37 = .int .i64 x37_2 ∧ Aside0 (verify_Written.l1 kq l0 x5_2 l0 (l0.length : Int) x37_2 = some r) ∧ Aside0 (kq ≤ k1) ∧ Aside0 (Kd.R (Kd.int .u16) 35 w' w.heap.size (fun _ => True) (.slice (some ⟨go17, 0, none⟩) x5_1.length co9) x5_2) ∧ Aside0 (Below w.heap.size w w'))
                case atStart => exact ⟨(y137), (0), (by first | rfl | (simp; done) | (simp [*]; done)), H', ⟨Nat.le_refl _⟩, ⟨by (try simp only [hl5_1]); (with_reducible repeat (first | apply Kd.R_alloc | apply Kd.R_drewN | apply Kd.R_drew)); exact HO_5.out⟩, ⟨by repeat (first | (with_reducible first | exact HB.out | apply below_alloc | apply pw_below_drewN | apply below_drew1) | exact HB.out)⟩⟩
                case round =>
                  clear H'
                  try clear c1
                  try clear p1
                  try clear q1
                  try clear hx1
                  try clear qi1
                  try clear hf1
                  try clear p2
                  try clear c3
                  try clear c3b0
                  try clear c3b1
                  try clear c4
                  try clear c4b0
                  try clear c4b1
                  try clear c5
                  try clear c5b0
                  try clear c5b1
                  try clear p6
                  try clear c7
                  try clear c10
                  try clear c10b0
                  try clear c11
                  try clear c11b0
                  try clear c12
                  try clear c12b0
                  try clear p13
                  try clear q13
                  try clear hx13
                  try clear hf13
                  try clear c16
                  try clear c16b0
                  try clear c16b1
                  try clear p17
                  try clear q17
                  try clear hx17
                  try clear qi17
                  try clear hf17
                  try clear hx13_0
                  try clear hx17_0
                  try clear p13
                  try clear p17
                  try clear p2
                  try clear q13
                  try clear q17
                  obtain ⟨x5_2, x37_2, rfl, HA, HK2, HO_5, HB⟩ := hrel
                  have hl5_2 := (Kd.R_reads' HO_5.out).1
                  rw [hl5_2] at HO_5
                  (try simp only [hl5_2])
                  cases gk with
                  | zero => exact absurd HA.out (by simp [verify_Written.l1])
                  | succ k2 =>
                    have H := HA.out
                    clear HA
                    simp only [verify_Written.l1] at H
                    by_cases c20 : x37_2 < (l0.length : Int)
                    · rw [if_pos c20] at H
                      have c20b0 : decide (x37_2 < (l0.length : Int)) = true := decide_eq_true c20
                      clear c20
                      by_cases c21 : 0 ≤ x37_2
                      · rw [if_pos c21] at H
                        have c21b0 : decide (0 ≤ x37_2) = true := decide_eq_true c21
                        clear c21
                        by_cases c22 : x37_2 < (l0.length : Int)
                        · rw [if_pos c22] at H
                          have c22b0 : decide (x37_2 < (l0.length : Int)) = true := decide_eq_true c22
                          clear c22
                          by_cases c23 : x37_2 < (x5_2.length : Int)
                          · rw [if_pos c23] at H
                            have c23b0 : decide (x37_2 < (x5_2.length : Int)) = true := decide_eq_true c23
                            clear c23
                            replace H := Option.bind_eq_some_iff.mp H
                            obtain ⟨t141, A240, H⟩ := H
                            replace H : (if t141 = 8 then (verify_Written.j2 k2 l0 x5_2 x37_2 (rd x5_2 x37_2) l0 (l0.length : Int) x37_2 true ((rd_T56 l0 x37_2).f0) ((rd_T56 l0 x37_2).f1) ((rd_T56 l0 x37_2).f2) ((rd_T56 l0 x37_2).f3)) else (verify_Written.j2 k2 l0 x5_2 x37_2 (rd x5_2 x37_2) l0 (l0.length : Int) x37_2 (t141 == 9) ((rd_T56 l0 x37_2).f0) ((rd_T56 l0 x37_2).f1) ((rd_T56 l0 x37_2).f2) ((rd_T56 l0 x37_2).f3))) = some r := H
                            have A24 := Aside0.mk A240
                            clear A240
                            have HC25 := Aside0.mk H
                            clear H
                            have p138 : 0 ≤ (x37_2 : Int) := of_decide_eq_true (by first | (with_reducible assumption) | assumption)
                            have q138 : x37_2 < (l0.length : Int) := of_decide_eq_true (by first | (with_reducible assumption) | assumption)
                            obtain ⟨ad138, e138, hx138_0, hx138_1, hx138_2, hx138_3⟩ := at_T56 HR0.out x37_2 p138 q138
                            cases e138
                            replace hx138_0 := (HB.out.cell (World.block_lt_of_cell? w _ hx138_0)).trans hx138_0
                            replace hx138_1 := (HB.out.cell (World.block_lt_of_cell? w _ hx138_1)).trans hx138_1
                            replace hx138_2 := (HB.out.cell (World.block_lt_of_cell? w _ hx138_2)).trans hx138_2
                            replace hx138_3 := (HB.out.cell (World.block_lt_of_cell? w _ hx138_3)).trans hx138_3
                            replace p138 := eq_true p138
                            replace q138 := eq_true q138
                            go_upto_region 16 with (first | ((with_reducible refine gate_dst (N := 8) rfl ?_); refine box_event ?hg (N := 8) ?hd (cs := #[.int .u16 0, .int .u8 0, .int .u8 0, .int .u32 0]) (t := 56) ?hr ?_; (case hd => rfl); (case hg => rfl); (case hr => first | (go_simp; done) | (go_simp; rfl)); intro gb139 hg w26 hbox hb; have n0_ := Aside0.mk (Kd.R_below (by (with_reducible repeat (first | apply Kd.R_alloc | apply Kd.R_drewN | apply Kd.R_drew)); exact HO_5.out) hb); have n1_ := Aside0.mk (below_step (by repeat (first | (with_reducible first | exact HB.out | apply below_alloc | apply pw_below_drewN | apply below_drew1) | exact HB.out)) hb); have n2_ := Aside0.mk (hbox); have n3_ := Aside0.mk ((by rw [hg]; exact (below_size (by repeat (first | (with_reducible first | exact HB.out | apply below_alloc | apply pw_below_drewN | apply below_drew1) | exact HB.out))) : w.heap.size ≤ gb139)); have n4_ := Aside0.mk ((by rw [hg]; exact (below_size (by repeat (first | (with_reducible first | exact HB.out | apply below_alloc | apply pw_below_drewN | apply below_drew1) | exact HB.out))) : w.heap.size ≤ gb139)); clear HO_5; clear HB; have HO_5 := n0_; have HB := n1_; have BK139 := n2_; have GW139 := n3_; have GE139 := n4_; clear n0_ n1_ n2_ n3_ n4_; clear hb hbox hg; have hcz27_0 : w26.cell? ⟨gb139, 0, none⟩ = some (.int .u16 0) := (blk_cell BK139.out 0).trans rfl; have hcz27_1 : w26.cell? ⟨gb139, 1, none⟩ = some (.int .u8 0) := (blk_cell BK139.out 1).trans rfl; have hcz27_2 : w26.cell? ⟨gb139, 2, none⟩ = some (.int .u8 0) := (blk_cell BK139.out 2).trans rfl; have hcz27_3 : w26.cell? ⟨gb139, 3, none⟩ = some (.int .u32 0) := (blk_cell BK139.out 3).trans rfl; have hfz27_0 := blk_frozen BK139.out 0; have hfz27_1 := blk_frozen BK139.out 1; have hfz27_2 := blk_frozen BK139.out 2; have hfz27_3 := blk_frozen BK139.out 3; have p140 : 0 ≤ (x37_2 : Int) := of_decide_eq_true (by first | (with_reducible assumption) | assumption); have q140 : x37_2 < (x5_2.length : Int) := of_decide_eq_true (by first | (with_reducible assumption) | assumption); obtain ⟨ad140, e140, hx140_0⟩ := Kd.at_int (Kd.R_reads' HO_5.out).2.2 x37_2 p140 q140; obtain rfl : (⟨go17, 0, none⟩ : Addr) = ad140 := (by injection e140); (first | simp only [add_plain] at hx140_0 | simp only [add_at] at hx140_0 | simp only [Addr.add, Nat.zero_add] at hx140_0 | skip); have hn140_0 : (⟨go17, 0, none⟩ : Addr).block ≠ gb139 := Kd.own_blk (Kd.R_ne HO_5.out BK139.out (by decide)); have hn140_1 : (⟨go17, 0, none⟩ : Addr).block ≠ gb139 := Kd.own_blk (Kd.R_ne HO_5.out BK139.out (by decide)); have hn140_2 : (⟨go17, 0, none⟩ : Addr).block ≠ gb139 := Kd.own_blk (Kd.R_ne HO_5.out BK139.out (by decide)); have hn140_3 : (⟨go17, 0, none⟩ : Addr).block ≠ gb139 := Kd.own_blk (Kd.R_ne HO_5.out BK139.out (by decide)); replace hx140_0 := (cell_far (p := ⟨gb139, 0, none⟩) (by first | (rw [add_block]; exact hn140_0) | (show (Addr.add _ _).block ≠ _; rw [add_block]; exact hn140_0) | exact hn140_0) (.int .u16 ((rd_T56 l0 x37_2).f0))).trans hx140_0; replace hx140_0 := (cell_far (p := ⟨gb139, 1, none⟩) (by first | (rw [add_block]; exact hn140_1) | (show (Addr.add _ _).block ≠ _; rw [add_block]; exact hn140_1) | exact hn140_1) (.int .u8 ((rd_T56 l0 x37_2).f1))).trans hx140_0; replace hx140_0 := (cell_far (p := ⟨gb139, 2, none⟩) (by first | (rw [add_block]; exact hn140_2) | (show (Addr.add _ _).block ≠ _; rw [add_block]; exact hn140_2) | exact hn140_2) (.int .u8 ((rd_T56 l0 x37_2).f2))).trans hx140_0; replace hx140_0 := (cell_far (p := ⟨gb139, 3, none⟩) (by first | (rw [add_block]; exact hn140_3) | (show (Addr.add _ _).block ≠ _; rw [add_block]; exact hn140_3) | exact hn140_3) (.int .u32 ((rd_T56 l0 x37_2).f3))).trans hx140_0; clear hn140_0; clear hn140_1; clear hn140_2; clear hn140_3; replace p140 := eq_true p140; replace q140 := eq_true q140) | ((with_reducible refine gate_callee (f := 78) rfl ?_); refine goesL_ (some 48) rfl rfl Try.func78 (by kernel_rfl) rfl #[.int .u16 ((rd_T56 l0 x37_2).f0)] rfl (by (try simp only [List.map_toArray, List.map_cons, List.map_nil]); first | done | rfl | (simp only [List.length_drop, List.length_take]; rfl)) ?_; (with_reducible refine (code_Kind.calls ((rd_T56 l0 x37_2).f0) t141 _ A24.out).mono ?_); rintro e w28 ⟨rfl, hb⟩; refine ⟨_, rfl, ?_⟩; have n0_ := Aside0.mk (Kd.R_below (by (with_reducible repeat (first | apply Kd.R_alloc | apply Kd.R_drewN | apply Kd.R_drew)); exact (Kd.R_mono (Kd.R_far (p := ⟨gb139, 3, none⟩) (Kd.R_far (p := ⟨gb139, 2, none⟩) (Kd.R_far (p := ⟨gb139, 1, none⟩) (Kd.R_far (p := ⟨gb139, 0, none⟩) (Kd.R_types HO_5.out BK139.out (by decide)) (fun _ hk => hk.2) (.int .u16 ((rd_T56 l0 x37_2).f0))) (fun _ hk => hk.2) (.int .u8 ((rd_T56 l0 x37_2).f1))) (fun _ hk => hk.2) (.int .u8 ((rd_T56 l0 x37_2).f2))) (fun _ hk => hk.2) (.int .u32 ((rd_T56 l0 x37_2).f3))) (fun _ h_ => h_.1))) hb); have n1_ := Aside0.mk (blk_below (g := gb139) (o := .cells #[.int .u16 ((rd_T56 l0 x37_2).f0), .int .u8 ((rd_T56 l0 x37_2).f1), .int .u8 ((rd_T56 l0 x37_2).f2), .int .u32 ((rd_T56 l0 x37_2).f3)] 56 (0, 0)) (by (with_reducible repeat (first | refine blk_drewN ?_ _ | refine blk_drew ?_ | refine blk_alloc ?_ _)); refine blk_put (cs := #[.int .u16 ((rd_T56 l0 x37_2).f0), .int .u8 ((rd_T56 l0 x37_2).f1), .int .u8 ((rd_T56 l0 x37_2).f2), .int .u32 0]) ?_ 3 _ rfl; (with_reducible repeat (first | refine blk_drewN ?_ _ | refine blk_drew ?_ | refine blk_alloc ?_ _)); refine blk_put (cs := #[.int .u16 ((rd_T56 l0 x37_2).f0), .int .u8 ((rd_T56 l0 x37_2).f1), .int .u8 0, .int .u32 0]) ?_ 2 _ rfl; (with_reducible repeat (first | refine blk_drewN ?_ _ | refine blk_drew ?_ | refine blk_alloc ?_ _)); refine blk_put (cs := #[.int .u16 ((rd_T56 l0 x37_2).f0), .int .u8 0, .int .u8 0, .int .u32 0]) ?_ 1 _ rfl; (with_reducible repeat (first | refine blk_drewN ?_ _ | refine blk_drew ?_ | refine blk_alloc ?_ _)); refine blk_put (cs := #[.int .u16 0, .int .u8 0, .int .u8 0, .int .u32 0]) ?_ 0 _ rfl; (with_reducible repeat (first | refine blk_drewN ?_ _ | refine blk_drew ?_ | refine blk_alloc ?_ _)); exact BK139.out) hb); have n2_ := Aside0.mk (below_step (by repeat (first | (with_reducible first | exact HB.out | apply below_alloc | apply pw_below_drewN | apply below_drew1 | refine below_set ?_ GE139.out) | exact HB.out)) hb); clear HO_5; clear BK139; clear HB; have HO_5 := n0_; have BK139 := n1_; have HB := n2_; clear n0_ n1_ n2_; (try clear hb); (try clear hb2); (try clear hk); (try clear hi)))
                            (try simp only [Act.put, List.setIfInBounds_toArray, List.set_cons_zero, List.set_cons_succ])
                            go_cut [54] (fun v54 wc => ∃ (kq : Nat) (x54_24 : Bool), v54 = .bool x54_24 ∧ Aside0 (verify_Written.j2 kq l0 x5_2 x37_2 (rd x5_2 x37_2) l0 (l0.length : Int) x37_2 x54_24 ((rd_T56 l0 x37_2).f0) ((rd_T56 l0 x37_2).f1) ((rd_T56 l0 x37_2).f2) ((rd_T56 l0 x37_2).f3) = some r) ∧ Aside0 (kq ≤ k2) ∧ Aside0 (Kd.R (Kd.int .u16) 35 wc w.heap.size (fun _ => True) (.slice (some ⟨go17, 0, none⟩) x5_2.length co9) x5_2) ∧ Aside0 (wc.heap[gb139]? = some (.cells #[.int .u16 ((rd_T56 l0 x37_2).f0), .int .u8 ((rd_T56 l0 x37_2).f1), .int .u8 ((rd_T56 l0 x37_2).f2), .int .u32 ((rd_T56 l0 x37_2).f3)] 56 (0, 0))) ∧ Aside0 (Below w.heap.size w wc))
                            case first =>
                              have H := HC25.out
                              clear HC25
                              by_cases c29 : t141 = 8
                              · rw [if_pos c29] at H
                                have c29b0 : (t141 == 8) = true := beq_iff_eq.mpr c29
                                have c29b1 : (t141 != 8) = false := bne_eq_false_iff_eq.mpr c29
                                clear c29
                                (first | rw [c29b0] | (simp only [i64_w, i32_w]; rw [c29b0]) | skip)
                                have H' := Aside0.mk H
                                clear H
                                go_wp2
                                go_meet
                                case rel => exact ⟨_, (true), (by first | rfl | (simp; done) | (simp [*]; done)), H', ⟨by have := HK1.out; have := HK2.out; first | omega | exact Nat.le_refl _⟩, ⟨by (try simp only [hl5_1]); (try simp only [hl5_2]); (with_reducible repeat (first | apply Kd.R_alloc | apply Kd.R_drewN | apply Kd.R_drew)); exact HO_5.out⟩, ⟨by (try simp only [hl5_1]); (try simp only [hl5_2]); (with_reducible repeat (first | refine blk_drewN ?_ _ | refine blk_drew ?_ | refine blk_alloc ?_ _)); exact BK139.out⟩, ⟨by repeat (first | (with_reducible first | exact HB.out | apply below_alloc | apply pw_below_drewN | apply below_drew1 | refine below_set ?_ GE139.out) | exact HB.out)⟩⟩
                              · rw [if_neg c29] at H
                                have c29b0 : (t141 == 8) = false := beq_eq_false_iff_ne.mpr c29
                                have c29b1 : (t141 != 8) = true := bne_iff_ne.mpr c29
                                (first | rw [c29b0] | (simp only [i64_w, i32_w]; rw [c29b0]) | skip)
                                have H' := Aside0.mk H
                                clear H
                                go_wp2
                                go_meet
                                case rel => exact ⟨_, ((t141 == 9)), (by first | rfl | (simp; done) | (simp [*]; done)), H', ⟨by have := HK1.out; have := HK2.out; first | omega | exact Nat.le_refl _⟩, ⟨by (try simp only [hl5_1]); (try simp only [hl5_2]); (with_reducible repeat (first | apply Kd.R_alloc | apply Kd.R_drewN | apply Kd.R_drew)); exact HO_5.out⟩, ⟨by (try simp only [hl5_1]); (try simp only [hl5_2]); (with_reducible repeat (first | refine blk_drewN ?_ _ | refine blk_drew ?_ | refine blk_alloc ?_ _)); exact BK139.out⟩, ⟨by repeat (first | (with_reducible first | exact HB.out | apply below_alloc | apply pw_below_drewN | apply below_drew1 | refine below_set ?_ GE139.out) | exact HB.out)⟩⟩
                            case rest =>
                              clear HC25
                              try clear c1
                              try clear p1
                              try clear q1
                              try clear hx1
                              try clear qi1
                              try clear hf1
                              try clear c2
                              try clear p2
                              try clear c3
                              try clear c3b0
                              try clear c3b1
                              try clear c4
                              try clear c4b0
                              try clear c4b1
                              try clear c5
                              try clear c5b0
                              try clear c5b1
                              try clear p6
                              try clear c7
                              try clear c10
                              try clear c10b0
                              try clear c11
                              try clear c11b0
                              try clear c12
                              try clear c12b0
                              try clear p13
                              try clear q13
                              try clear hx13
                              try clear hf13
                              try clear p14
                              try clear q14
                              try clear hx14
                              try clear c16
                              try clear c16b0
                              try clear c16b1
                              try clear p17
                              try clear q17
                              try clear hx17
                              try clear qi17
                              try clear hf17
                              try clear c20
                              try clear c20b0
                              try clear c21
                              try clear c21b0
                              try clear c22
                              try clear c22b0
                              try clear c23
                              try clear c23b0
                              try clear c29
                              try clear c29b0
                              try clear c29b1
                              try clear hcz27_0
                              try clear hcz27_1
                              try clear hcz27_2
                              try clear hcz27_3
                              try clear hfz27_0
                              try clear hfz27_1
                              try clear hfz27_2
                              try clear hfz27_3
                              try clear hx138_0
                              try clear hx138_1
                              try clear hx138_2
                              try clear hx138_3
                              try clear hx13_0
                              try clear hx140_0
                              try clear hx17_0
                              try clear p1
                              try clear p13
                              try clear p138
                              try clear p140
                              try clear p17
                              try clear p2
                              try clear p6
                              try clear q1
                              try clear q13
                              try clear q138
                              try clear q140
                              try clear q17
                              obtain ⟨kq, x54_24, rfl, HA, HJ24, HO_5, BK139, HB⟩ := hcut
                              cases kq with
                              | zero => exact absurd HA.out (by simp [verify_Written.j2])
                              | succ kj24 =>
                                have H := HA.out
                                clear HA
                                simp only [verify_Written.j2] at H
                                have HC30 := Aside0.mk H
                                clear H
                                go_upto_if 54 with (fail)
                                go_cut [9] (fun v9 wc => ∃ (kq : Nat) (x9_29 : Int), v9 = .int .u16 x9_29 ∧ Aside0 (verify_Written.j3 kq l0 x5_2 x37_2 x9_29 l0 (l0.length : Int) x37_2 ((rd_T56 l0 x37_2).f0) ((rd_T56 l0 x37_2).f1) ((rd_T56 l0 x37_2).f2) ((rd_T56 l0 x37_2).f3) = some r) ∧ Aside0 (kq ≤ kj24) ∧ Aside0 (Kd.R (Kd.int .u16) 35 wc w.heap.size (fun _ => True) (.slice (some ⟨go17, 0, none⟩) x5_2.length co9) x5_2) ∧ Aside0 (wc.heap[gb139]? = some (.cells #[.int .u16 ((rd_T56 l0 x37_2).f0), .int .u8 ((rd_T56 l0 x37_2).f1), .int .u8 ((rd_T56 l0 x37_2).f2), .int .u32 ((rd_T56 l0 x37_2).f3)] 56 (0, 0))) ∧ Aside0 (Below w.heap.size w wc))
                                case first =>
                                  have H := HC30.out
                                  clear HC30
                                  by_cases c31 : x54_24 = true
                                  · subst c31
                                    have H1 : (if 0 ≤ ((rd_T56 l0 x37_2).f3) then (verify_Written.j3 kj24 l0 x5_2 x37_2 (Go.bits .or .u16 (rd x5_2 x37_2) (shl .u16 1 ((rd_T56 l0 x37_2).f3))) l0 (l0.length : Int) x37_2 ((rd_T56 l0 x37_2).f0) ((rd_T56 l0 x37_2).f1) ((rd_T56 l0 x37_2).f2) ((rd_T56 l0 x37_2).f3)) else (none)) = some r := by rw [if_pos rfl] at H; exact H
                                    clear H
                                    have H := H1
                                    clear H1
                                    by_cases c32 : 0 ≤ ((rd_T56 l0 x37_2).f3)
                                    · rw [if_pos c32] at H
                                      have c32b0 := eq_true c32
                                      have c32b1 : decide (0 ≤ ((rd_T56 l0 x37_2).f3)) = true := decide_eq_true c32
                                      clear c32
                                      obtain ⟨ji33, hji33⟩ : ∃ j_ : Int, (shl .u16 1 ((rd_T56 l0 x37_2).f3)) = j_ := ⟨_, rfl⟩
                                      replace H : (verify_Written.j3 kj24 l0 x5_2 x37_2 (Go.bits .or .u16 (rd x5_2 x37_2) (ji33)) l0 (l0.length : Int) x37_2 ((rd_T56 l0 x37_2).f0) ((rd_T56 l0 x37_2).f1) ((rd_T56 l0 x37_2).f2) ((rd_T56 l0 x37_2).f3)) = some r := by first | (rw [hji33] at H; exact H) | (simp only [hji33] at H ⊢; exact H)
                                      have hji33_ : (IntKind.u16.wrap (1 * 2 ^ min ((rd_T56 l0 x37_2).f3).toNat 16)) = ji33 := hji33
                                      have hji33z : ((rd_T56 l0 x37_2).f3) ≤ 16 → (IntKind.u16.wrap (1 * 2 ^ ((rd_T56 l0 x37_2).f3).toNat)) = ji33 := shl_small hji33
                                      have hji33u : (IntKind.u16.wrap (2 ^ min ((rd_T56 l0 x37_2).f3).toNat 16)) = ji33 := by have h_ := hji33_; rw [Int.one_mul] at h_; exact h_
                                      have hji33v : ((rd_T56 l0 x37_2).f3) ≤ 16 → (IntKind.u16.wrap (2 ^ ((rd_T56 l0 x37_2).f3).toNat)) = ji33 := fun hle_ => by have h_ := hji33z hle_; rw [Int.one_mul] at h_; exact h_
                                      have H' := Aside0.mk H
                                      clear H
                                      have hcz34_0 : wc.cell? ⟨gb139, 0, none⟩ = some (.int .u16 ((rd_T56 l0 x37_2).f0)) := (blk_cell BK139.out 0).trans rfl
                                      have hcz34_1 : wc.cell? ⟨gb139, 1, none⟩ = some (.int .u8 ((rd_T56 l0 x37_2).f1)) := (blk_cell BK139.out 1).trans rfl
                                      have hcz34_2 : wc.cell? ⟨gb139, 2, none⟩ = some (.int .u8 ((rd_T56 l0 x37_2).f2)) := (blk_cell BK139.out 2).trans rfl
                                      have hcz34_3 : wc.cell? ⟨gb139, 3, none⟩ = some (.int .u32 ((rd_T56 l0 x37_2).f3)) := (blk_cell BK139.out 3).trans rfl
                                      have hfz34_0 := blk_frozen BK139.out 0
                                      have hfz34_1 := blk_frozen BK139.out 1
                                      have hfz34_2 := blk_frozen BK139.out 2
                                      have hfz34_3 := blk_frozen BK139.out 3
                                      go_wp2
                                      go_meet
                                      case rel => exact ⟨_, (Go.bits .or .u16 (rd x5_2 x37_2) (ji33)), (by first | rfl | (simp; done) | (simp only [← hji33] <;> (first | rfl | simp)) | (simp [*]; done)), H', ⟨by have := HK1.out; have := HK2.out; have := HJ24.out; first | omega | exact Nat.le_refl _⟩, ⟨by (try simp only [hl5_1]); (try simp only [hl5_2]); (with_reducible repeat (first | apply Kd.R_alloc | apply Kd.R_drewN | apply Kd.R_drew)); exact HO_5.out⟩, ⟨by (try simp only [hl5_1]); (try simp only [hl5_2]); (with_reducible repeat (first | refine blk_drewN ?_ _ | refine blk_drew ?_ | refine blk_alloc ?_ _)); exact BK139.out⟩, ⟨by repeat (first | (with_reducible first | exact HB.out | apply below_alloc | apply pw_below_drewN | apply below_drew1 | refine below_set ?_ GE139.out) | exact HB.out)⟩⟩
                                    · rw [if_neg c32] at H
                                      exact absurd H (by simp)
                                  · replace c31 := Bool.eq_false_iff.mpr c31
                                    subst c31
                                    have H1 : (verify_Written.j3 kj24 l0 x5_2 x37_2 (rd x5_2 x37_2) l0 (l0.length : Int) x37_2 ((rd_T56 l0 x37_2).f0) ((rd_T56 l0 x37_2).f1) ((rd_T56 l0 x37_2).f2) ((rd_T56 l0 x37_2).f3)) = some r := by rw [if_neg (show ¬ (false = true) by decide)] at H; exact H
                                    clear H
                                    have H := H1
                                    clear H1
                                    have H' := Aside0.mk H
                                    clear H
                                    go_wp2
                                    go_meet
                                    case rel => exact ⟨_, ((rd x5_2 x37_2)), (by first | rfl | (simp; done) | (simp [*]; done)), H', ⟨by have := HK1.out; have := HK2.out; have := HJ24.out; first | omega | exact Nat.le_refl _⟩, ⟨by (try simp only [hl5_1]); (try simp only [hl5_2]); (with_reducible repeat (first | apply Kd.R_alloc | apply Kd.R_drewN | apply Kd.R_drew)); exact HO_5.out⟩, ⟨by (try simp only [hl5_1]); (try simp only [hl5_2]); (with_reducible repeat (first | refine blk_drewN ?_ _ | refine blk_drew ?_ | refine blk_alloc ?_ _)); exact BK139.out⟩, ⟨by repeat (first | (with_reducible first | exact HB.out | apply below_alloc | apply pw_below_drewN | apply below_drew1 | refine below_set ?_ GE139.out) | exact HB.out)⟩⟩
                                case rest =>
                                  clear HC30
                                  try clear c1
                                  try clear p1
                                  try clear q1
                                  try clear hx1
                                  try clear qi1
                                  try clear hf1
                                  try clear c2
                                  try clear p2
                                  try clear c3
                                  try clear c3b0
                                  try clear c3b1
                                  try clear c4
                                  try clear c4b0
                                  try clear c4b1
                                  try clear c5
                                  try clear c5b0
                                  try clear c5b1
                                  try clear p6
                                  try clear c7
                                  try clear c10
                                  try clear c10b0
                                  try clear c11
                                  try clear c11b0
                                  try clear c12
                                  try clear c12b0
                                  try clear p13
                                  try clear q13
                                  try clear hx13
                                  try clear hf13
                                  try clear p14
                                  try clear q14
                                  try clear hx14
                                  try clear c16
                                  try clear c16b0
                                  try clear c16b1
                                  try clear p17
                                  try clear q17
                                  try clear hx17
                                  try clear qi17
                                  try clear hf17
                                  try clear c20
                                  try clear c20b0
                                  try clear c21
                                  try clear c21b0
                                  try clear c22
                                  try clear c22b0
                                  try clear c23
                                  try clear c23b0
                                  try clear c29
                                  try clear c29b0
                                  try clear c29b1
                                  try clear c31
                                  try clear c32
                                  try clear c32b0
                                  try clear c32b1
                                  try clear hcz27_0
                                  try clear hcz27_1
                                  try clear hcz27_2
                                  try clear hcz27_3
                                  try clear hcz34_0
                                  try clear hcz34_1
                                  try clear hcz34_2
                                  try clear hcz34_3
                                  try clear hfz27_0
                                  try clear hfz27_1
                                  try clear hfz27_2
                                  try clear hfz27_3
                                  try clear hfz34_0
                                  try clear hfz34_1
                                  try clear hfz34_2
                                  try clear hfz34_3
                                  try clear hx138_0
                                  try clear hx138_1
                                  try clear hx138_2
                                  try clear hx138_3
                                  try clear hx13_0
                                  try clear hx140_0
                                  try clear hx17_0
                                  try clear p1
                                  try clear p13
                                  try clear p138
                                  try clear p14
                                  try clear p140
                                  try clear p17
                                  try clear p2
                                  try clear p6
                                  try clear q1
                                  try clear q13
                                  try clear q138
                                  try clear q14
                                  try clear q140
                                  try clear q17
                                  obtain ⟨kq, x9_29, rfl, HA, HJ29, HO_5, BK139, HB⟩ := hcut
                                  cases kq with
                                  | zero => exact absurd HA.out (by simp [verify_Written.j3])
                                  | succ kj29 =>
                                    have H := HA.out
                                    clear HA
                                    simp only [verify_Written.j3] at H
                                    replace H := Option.bind_eq_some_iff.mp H
                                    obtain ⟨t142, A350, H⟩ := H
                                    replace H : (verify_Written.l2 kj29 l0 x5_2 x37_2 x9_29 l0 (l0.length : Int) x37_2 t142 (t142.length : Int) 0) = some r := H
                                    have A35 := Aside0.mk A350
                                    clear A350
                                    have H' := Aside0.mk H
                                    clear H
                                    have hcz36_0 : wc.cell? ⟨gb139, 0, none⟩ = some (.int .u16 ((rd_T56 l0 x37_2).f0)) := (blk_cell BK139.out 0).trans rfl
                                    have hcz36_1 : wc.cell? ⟨gb139, 1, none⟩ = some (.int .u8 ((rd_T56 l0 x37_2).f1)) := (blk_cell BK139.out 1).trans rfl
                                    have hcz36_2 : wc.cell? ⟨gb139, 2, none⟩ = some (.int .u8 ((rd_T56 l0 x37_2).f2)) := (blk_cell BK139.out 2).trans rfl
                                    have hcz36_3 : wc.cell? ⟨gb139, 3, none⟩ = some (.int .u32 ((rd_T56 l0 x37_2).f3)) := (blk_cell BK139.out 3).trans rfl
                                    have hfz36_0 := blk_frozen BK139.out 0
                                    have hfz36_1 := blk_frozen BK139.out 1
                                    have hfz36_2 := blk_frozen BK139.out 2
                                    have hfz36_3 := blk_frozen BK139.out 3
                                    go_wp2_with (first | ((with_reducible refine gate_callee (f := 82) rfl ?_); refine goesL_ (some 61) rfl rfl Try.func82 (by kernel_rfl) rfl #[.agg #[.int .u16 ((rd_T56 l0 x37_2).f0), .int .u8 ((rd_T56 l0 x37_2).f1), .int .u8 ((rd_T56 l0 x37_2).f2), .int .u32 ((rd_T56 l0 x37_2).f3)]] rfl (by (try simp only [List.map_toArray, List.map_cons, List.map_nil]); first | done | rfl | (simp only [List.length_drop, List.length_take]; rfl)) ?_; (with_reducible refine (verify_jumps.calls ((rd_T56 l0 x37_2).f0) ((rd_T56 l0 x37_2).f1) ((rd_T56 l0 x37_2).f2) ((rd_T56 l0 x37_2).f3) t142 _ A35.out).mono ?_); rintro e w37 ⟨v143, rfl, ho0, hb⟩; refine ⟨_, rfl, ?_⟩; have n0_ := Aside0.mk (Kd.R_below (by (with_reducible repeat (first | apply Kd.R_alloc | apply Kd.R_drewN | apply Kd.R_drew)); exact HO_5.out) hb); have n1_ := Aside0.mk (Kd.R_lower ho0 (below_size (by repeat (first | (with_reducible first | exact HB.out | apply below_alloc | apply pw_below_drewN | apply below_drew1 | refine below_set ?_ GE139.out) | exact HB.out)))); have n2_ := Aside0.mk (blk_below (g := gb139) (o := .cells #[.int .u16 ((rd_T56 l0 x37_2).f0), .int .u8 ((rd_T56 l0 x37_2).f1), .int .u8 ((rd_T56 l0 x37_2).f2), .int .u32 ((rd_T56 l0 x37_2).f3)] 56 (0, 0)) (by (with_reducible repeat (first | refine blk_drewN ?_ _ | refine blk_drew ?_ | refine blk_alloc ?_ _)); exact BK139.out) hb); have n3_ := Aside0.mk (below_step (by repeat (first | (with_reducible first | exact HB.out | apply below_alloc | apply pw_below_drewN | apply below_drew1 | refine below_set ?_ GE139.out) | exact HB.out)) hb); clear HO_5; clear BK139; clear HB; have HO_5 := n0_; have HO144 := n1_; have BK139 := n2_; have HB := n3_; clear n0_ n1_ n2_ n3_; (try clear hb); (try clear hb2); (try clear hk); (try clear hi); (try clear ho0); obtain ⟨Ao38, co38, eo38⟩ := Kd.R_slice HO144.out; subst eo38))
                                    go_loopg [63] kj29 (fun kq v63 w' => ∃ (x5_5 : List Int) (x63_5 : Int), v63 = .int .i64 x63_5 ∧ Aside0 (verify_Written.l2 kq l0 x5_5 x37_2 x9_29 l0 (l0.length : Int) x37_2 t142 (t142.length : Int) x63_5 = some r) ∧ Aside0 (kq ≤ kj29) ∧ Aside0 (Kd.R (Kd.int .u16) 35 w' w.heap.size (fun _ => True) (.slice (some ⟨go17, 0, none⟩) x5_2.length co9) x5_5) ∧ Aside0 (Kd.R (Kd.int .u64) 65 w' w.heap.size (fun _ => True) (.slice Ao38 t142.length co38) t142) ∧ Aside0 (w'.heap[gb139]? = some (.cells #[.int .u16 ((rd_T56 l0 x37_2).f0), .int .u8 ((rd_T56 l0 x37_2).f1), .int .u8 ((rd_T56 l0 x37_2).f2), .int .u32 ((rd_T56 l0 x37_2).f3)] 56 (0, 0))) ∧ Aside0 (Below w.heap.size w w'))
                                    case atStart => exact ⟨(x5_2), (0), (by first | rfl | (simp; done) | (simp [*]; done)), H', ⟨Nat.le_refl _⟩, ⟨by (try simp only [hl5_1]); (try simp only [hl5_2]); (with_reducible repeat (first | apply Kd.R_alloc | apply Kd.R_drewN | apply Kd.R_drew)); exact HO_5.out⟩, ⟨by (try simp only [hl5_1]); (try simp only [hl5_2]); (with_reducible repeat (first | apply Kd.R_alloc | apply Kd.R_drewN | apply Kd.R_drew)); exact HO144.out⟩, ⟨by (try simp only [hl5_1]); (try simp only [hl5_2]); (with_reducible repeat (first | refine blk_drewN ?_ _ | refine blk_drew ?_ | refine blk_alloc ?_ _)); exact BK139.out⟩, ⟨by repeat (first | (with_reducible first | exact HB.out | apply below_alloc | apply pw_below_drewN | apply below_drew1 | refine below_set ?_ GE139.out) | exact HB.out)⟩⟩
                                    case round =>
                                      clear H'
                                      try clear c1
                                      try clear p1
                                      try clear q1
                                      try clear hx1
                                      try clear qi1
                                      try clear hf1
                                      try clear c2
                                      try clear p2
                                      try clear c3
                                      try clear c3b0
                                      try clear c3b1
                                      try clear c4
                                      try clear c4b0
                                      try clear c4b1
                                      try clear c5
                                      try clear c5b0
                                      try clear c5b1
                                      try clear p6
                                      try clear c7
                                      try clear c8
                                      try clear c10
                                      try clear c10b0
                                      try clear c11
                                      try clear c11b0
                                      try clear c12
                                      try clear c12b0
                                      try clear p13
                                      try clear q13
                                      try clear hx13
                                      try clear hf13
                                      try clear p14
                                      try clear q14
                                      try clear hx14
                                      try clear c16
                                      try clear c16b0
                                      try clear c16b1
                                      try clear p17
                                      try clear q17
                                      try clear hx17
                                      try clear qi17
                                      try clear hf17
                                      try clear c20
                                      try clear c20b0
                                      try clear c21
                                      try clear c21b0
                                      try clear c22
                                      try clear c22b0
                                      try clear c23
                                      try clear c23b0
                                      try clear c29
                                      try clear c29b0
                                      try clear c29b1
                                      try clear c31
                                      try clear c32
                                      try clear c32b0
                                      try clear c32b1
                                      try clear hcz27_0
                                      try clear hcz27_1
                                      try clear hcz27_2
                                      try clear hcz27_3
                                      try clear hcz34_0
                                      try clear hcz34_1
                                      try clear hcz34_2
                                      try clear hcz34_3
                                      try clear hcz36_0
                                      try clear hcz36_1
                                      try clear hcz36_2
                                      try clear hcz36_3
                                      try clear hfz27_0
                                      try clear hfz27_1
                                      try clear hfz27_2
                                      try clear hfz27_3
                                      try clear hfz34_0
                                      try clear hfz34_1
                                      try clear hfz34_2
                                      try clear hfz34_3
                                      try clear hfz36_0
                                      try clear hfz36_1
                                      try clear hfz36_2
                                      try clear hfz36_3
                                      try clear hx138_0
                                      try clear hx138_1
                                      try clear hx138_2
                                      try clear hx138_3
                                      try clear hx13_0
                                      try clear hx140_0
                                      try clear hx17_0
                                      try clear p1
                                      try clear p13
                                      try clear p138
                                      try clear p14
                                      try clear p140
                                      try clear p17
                                      try clear p2
                                      try clear p6
                                      try clear q1
                                      try clear q13
                                      try clear q138
                                      try clear q14
                                      try clear q140
                                      try clear q17
                                      obtain ⟨x5_5, x63_5, rfl, HA, HK5, HO_5, HO_61, BK139, HB⟩ := hrel
                                      have hl5_5 := (Kd.R_reads' HO_5.out).1
                                      rw [hl5_5] at HO_5
                                      (try simp only [hl5_5])
                                      (try simp only [hl5_5] at BK139)
                                      (try simp only [hl5_5] at HO_61)
                                      cases gk with
                                      | zero => exact absurd HA.out (by simp [verify_Written.l2])
                                      | succ k5 =>
                                        have H := HA.out
                                        clear HA
                                        simp only [verify_Written.l2] at H
                                        by_cases c39 : x63_5 < (t142.length : Int)
                                        · rw [if_pos c39] at H
                                          have c39b0 : decide (x63_5 < (t142.length : Int)) = true := decide_eq_true c39
                                          clear c39
                                          by_cases c40 : 0 ≤ x63_5
                                          · rw [if_pos c40] at H
                                            have c40b0 : decide (0 ≤ x63_5) = true := decide_eq_true c40
                                            clear c40
                                            by_cases c41 : x63_5 < (t142.length : Int)
                                            · rw [if_pos c41] at H
                                              have c41b0 : decide (x63_5 < (t142.length : Int)) = true := decide_eq_true c41
                                              clear c41
                                              by_cases c42 : (wrap64 ((wrap64 (x37_2 + 1)) + (wrap64 (rd t142 x63_5)))) < (l0.length : Int)
                                              · rw [if_pos c42] at H
                                                have c42b0 : decide ((wrap64 ((wrap64 (x37_2 + 1)) + (wrap64 (rd t142 x63_5)))) < (l0.length : Int)) = true := decide_eq_true c42
                                                clear c42
                                                obtain ⟨ji43, hji43⟩ : ∃ j_ : Int, (wrap64 ((wrap64 (x37_2 + 1)) + (wrap64 (rd t142 x63_5)))) = j_ := ⟨_, rfl⟩
                                                replace H : (if 0 ≤ (ji43) then (if (ji43) < (x5_5.length : Int) then (verify_Written.l2 k5 l0 (x5_5.set ((ji43) : Int).toNat (Go.bits .and .u16 (rd x5_5 (ji43)) x9_29)) x37_2 x9_29 l0 (l0.length : Int) x37_2 t142 (t142.length : Int) (wrap64 (x63_5 + 1))) else (none)) else (none)) = some r := by first | (rw [hji43] at H; exact H) | (simp only [hji43] at H ⊢; exact H)
                                                (try rw [hji43] at c42b0)
                                                have hji43w : (IntKind.i64.wrap ((wrap64 (x37_2 + 1)) + (wrap64 (rd t142 x63_5)))) = ji43 := (i64_w _).trans hji43
                                                by_cases c44 : 0 ≤ (ji43)
                                                · rw [if_pos c44] at H
                                                  have c44b0 : decide (0 ≤ (ji43)) = true := decide_eq_true c44
                                                  clear c44
                                                  by_cases c45 : (ji43) < (x5_5.length : Int)
                                                  · rw [if_pos c45] at H
                                                    have c45b0 : decide ((ji43) < (x5_5.length : Int)) = true := decide_eq_true c45
                                                    clear c45
                                                    obtain ⟨y147, hy147⟩ : ∃ y_ : List Int, y_ = (x5_5.set ((ji43) : Int).toNat (Go.bits .and .u16 (rd x5_5 (ji43)) x9_29)) := ⟨_, rfl⟩
                                                    replace H : (verify_Written.l2 k5 l0 y147 x37_2 x9_29 l0 (l0.length : Int) x37_2 t142 (t142.length : Int) (wrap64 (x63_5 + 1))) = some r := by first | (rw [hy147]; with_reducible exact H) | (have H2_ := (Option.bind_some _ _).symm.trans H; rw [hy147]; with_reducible exact H2_) | (have H2_ := (Option.bind_some _ _).symm.trans H; with_reducible exact H2_) | with_reducible exact H | (rw [hy147]; exact H) | exact H
                                                    have Ny147 := Aside0.mk hy147
                                                    clear hy147
                                                    have H' := Aside0.mk H
                                                    clear H
                                                    have p145 : 0 ≤ (x63_5 : Int) := of_decide_eq_true (by first | (with_reducible assumption) | assumption)
                                                    have q145 : x63_5 < (t142.length : Int) := of_decide_eq_true (by first | (with_reducible assumption) | assumption)
                                                    obtain ⟨ad145, e145, hx145_0⟩ := Kd.at_int (Kd.R_reads' HO_61.out).2.2 x63_5 p145 q145
                                                    cases e145
                                                    replace p145 := eq_true p145
                                                    replace q145 := eq_true q145
                                                    have p146 : 0 ≤ ((ji43) : Int) := of_decide_eq_true (by first | (with_reducible assumption) | assumption)
                                                    have q146 : (ji43) < (x5_5.length : Int) := of_decide_eq_true (by first | (with_reducible assumption) | assumption)
                                                    obtain ⟨ad146, e146, hx146_0⟩ := Kd.at_int (Kd.R_reads' HO_5.out).2.2 (ji43) p146 q146
                                                    obtain rfl : (⟨go17, 0, none⟩ : Addr) = ad146 := (by injection e146)
                                                    (first | simp only [add_plain] at hx146_0 | simp only [add_at] at hx146_0 | simp only [Addr.add, Nat.zero_add] at hx146_0 | skip)
                                                    replace p146 := eq_true p146
                                                    replace q146 := eq_true q146
                                                    have p46 : 0 ≤ ((ji43) : Int) := of_decide_eq_true (by first | (with_reducible assumption) | assumption)
                                                    have q46 : ((ji43) : Int) < ((x5_5.length : Int) : Int) := of_decide_eq_true (by first | (with_reducible assumption) | assumption)
                                                    obtain ⟨hx46_0, hf46_0⟩ := Kd.R_celln 0 HO_5.out ((ji43) : Int) p46 q46
                                                    replace p46 := eq_true p46
                                                    replace q46 := eq_true q46
                                                    have HP47 := Kd.R_putg HO_5.out ((ji43) : Int) (Go.bits .and .u16 (rd x5_5 (ji43)) x9_29)
                                                    go_wp2_with (first | ((with_reducible refine gate_store (t := 35) (p := 82) rfl ?_); refine store_event (t := 35) (p := 82) (v := ?vo_w48) (w1 := (wr.setCell ⟨go17, ((ji43) : Int).toNat, none⟩ (.int .u16 (Go.bits .and .u16 (rd x5_5 (ji43)) x9_29)))) ?hg ?ho ?hn ?hr ?_; (case ho => rfl); (case hg => rfl); (case hn => rfl); (case hr => first | (go_simp; done) | (go_simp; rfl)); intro w48 hw; have hg : wr.grownBy w48 (some go17) := (by rw [hw]; exact HP47.2); have hp_ : Kd.R (Kd.int .u16) 35 w48 w.heap.size (fun _ => True) (.slice (some ⟨go17, 0, none⟩) x5_5.length co9) y147 := (by rw [hw, Ny147.out]; exact HP47.1); clear HP47; have n0_ := Aside0.mk (hp_); have n1_ := Aside0.mk (Kd.R_over' (v := (.slice (some ⟨go17, 0, none⟩) x5_5.length co9)) (by (with_reducible repeat (first | apply Kd.R_alloc | apply Kd.R_drewN | apply Kd.R_drew)); exact HO_61.out) (Kd.R_typed HO_5.out) (by decide) hg); have n2_ := Aside0.mk (blk_grown (g := gb139) (o := .cells #[.int .u16 ((rd_T56 l0 x37_2).f0), .int .u8 ((rd_T56 l0 x37_2).f1), .int .u8 ((rd_T56 l0 x37_2).f2), .int .u32 ((rd_T56 l0 x37_2).f3)] 56 (0, 0)) (by (with_reducible repeat (first | refine blk_drewN ?_ _ | refine blk_drew ?_ | refine blk_alloc ?_ _)); exact BK139.out) hg (Kd.R_ne HO_5.out BK139.out (by decide))); have n3_ := Aside0.mk ((by rw [hw]; exact below_set (HB.out) GB17.out : Below w.heap.size w w48)); clear HO_5; clear HO_61; clear BK139; clear HB; have HO_5 := n0_; have HO_61 := n1_; have BK139 := n2_; have HB := n3_; clear n0_ n1_ n2_ n3_; clear hg hw hp_))
                                                    (try simp only [← hl5_5])
                                                    go_roundg k5
                                                    case measure => have := HK1.out; have := HK2.out; have := HJ24.out; have := HJ29.out; have := HK5.out; omega
                                                    case rel => exact ⟨(y147), (wrap64 (x63_5 + 1)), (by first | rfl | (simp; done) | (simp [*]; done)), H', ⟨by have := HK1.out; have := HK2.out; have := HJ24.out; have := HJ29.out; have := HK5.out; omega⟩, ⟨by (try simp only [hl5_1]); (try simp only [hl5_2]); (try simp only [hl5_5]); (with_reducible repeat (first | apply Kd.R_alloc | apply Kd.R_drewN | apply Kd.R_drew)); exact HO_5.out⟩, ⟨by (try simp only [hl5_1]); (try simp only [hl5_2]); (try simp only [hl5_5]); (with_reducible repeat (first | apply Kd.R_alloc | apply Kd.R_drewN | apply Kd.R_drew)); exact HO_61.out⟩, ⟨by (try simp only [hl5_1]); (try simp only [hl5_2]); (try simp only [hl5_5]); (with_reducible repeat (first | refine blk_drewN ?_ _ | refine blk_drew ?_ | refine blk_alloc ?_ _)); exact BK139.out⟩, ⟨by repeat (first | (with_reducible first | exact HB.out | apply below_alloc | apply pw_below_drewN | apply below_drew1 | refine below_set ?_ GE139.out) | exact HB.out)⟩⟩
                                                  · rw [if_neg c45] at H
                                                    exact absurd H (by simp)
                                                · rw [if_neg c44] at H
                                                  exact absurd H (by simp)
                                              · rw [if_neg c42] at H
                                                have c42b0 : decide ((wrap64 ((wrap64 (x37_2 + 1)) + (wrap64 (rd t142 x63_5)))) < (l0.length : Int)) = false := decide_eq_false c42
                                                clear c42
                                                have H' := Aside0.mk H
                                                clear H
                                                have p145 : 0 ≤ (x63_5 : Int) := of_decide_eq_true (by first | (with_reducible assumption) | assumption)
                                                have q145 : x63_5 < (t142.length : Int) := of_decide_eq_true (by first | (with_reducible assumption) | assumption)
                                                obtain ⟨ad145, e145, hx145_0⟩ := Kd.at_int (Kd.R_reads' HO_61.out).2.2 x63_5 p145 q145
                                                cases e145
                                                replace p145 := eq_true p145
                                                replace q145 := eq_true q145
                                                go_wp2
                                                (try simp only [← hl5_5])
                                                go_roundg k5
                                                case measure => have := HK1.out; have := HK2.out; have := HJ24.out; have := HJ29.out; have := HK5.out; omega
                                                case rel => exact ⟨(x5_5), (wrap64 (x63_5 + 1)), (by first | rfl | (simp; done) | (simp [*]; done)), H', ⟨by have := HK1.out; have := HK2.out; have := HJ24.out; have := HJ29.out; have := HK5.out; omega⟩, ⟨by (try simp only [hl5_1]); (try simp only [hl5_2]); (try simp only [hl5_5]); (with_reducible repeat (first | apply Kd.R_alloc | apply Kd.R_drewN | apply Kd.R_drew)); exact HO_5.out⟩, ⟨by (try simp only [hl5_1]); (try simp only [hl5_2]); (try simp only [hl5_5]); (with_reducible repeat (first | apply Kd.R_alloc | apply Kd.R_drewN | apply Kd.R_drew)); exact HO_61.out⟩, ⟨by (try simp only [hl5_1]); (try simp only [hl5_2]); (try simp only [hl5_5]); (with_reducible repeat (first | refine blk_drewN ?_ _ | refine blk_drew ?_ | refine blk_alloc ?_ _)); exact BK139.out⟩, ⟨by repeat (first | (with_reducible first | exact HB.out | apply below_alloc | apply pw_below_drewN | apply below_drew1 | refine below_set ?_ GE139.out) | exact HB.out)⟩⟩
                                            · rw [if_neg c41] at H
                                              exact absurd H (by simp)
                                          · rw [if_neg c40] at H
                                            exact absurd H (by simp)
                                        · rw [if_neg c39] at H
                                          have c39b0 : decide (x63_5 < (t142.length : Int)) = false := decide_eq_false c39
                                          clear c39
                                          have H' := Aside0.mk H
                                          clear H
                                          go_wp2
                                          (try simp only [← hl5_2, ← hl5_5])
                                          go_roundg k5
                                          case measure => have := HK1.out; have := HK2.out; have := HJ24.out; have := HJ29.out; have := HK5.out; omega
                                          case rel => exact ⟨(x5_5), (wrap64 (x37_2 + 1)), (by first | rfl | (simp; done) | (simp [*]; done)), H', ⟨by have := HK1.out; have := HK2.out; have := HJ24.out; have := HJ29.out; have := HK5.out; omega⟩, ⟨by (try simp only [hl5_1]); (try simp only [hl5_2]); (try simp only [hl5_5]); (with_reducible repeat (first | apply Kd.R_alloc | apply Kd.R_drewN | apply Kd.R_drew)); exact HO_5.out⟩, ⟨by repeat (first | (with_reducible first | exact HB.out | apply below_alloc | apply pw_below_drewN | apply below_drew1 | refine below_set ?_ GE139.out) | exact HB.out)⟩⟩
                          · rw [if_neg c23] at H
                            exact absurd H (by simp)
                        · rw [if_neg c22] at H
                          exact absurd H (by simp)
                      · rw [if_neg c21] at H
                        exact absurd H (by simp)
                    · rw [if_neg c20] at H
                      have c20b0 : decide (x37_2 < (l0.length : Int)) = false := decide_eq_false c20
                      clear c20
                      obtain rfl := Option.some.inj H
                      go_wp2
                      go_ret
                      exact ⟨_, by first | rfl | (simp [errW_none, errW_some] <;> rfl) | (simp [*, errW_none, errW_some] <;> rfl), by (with_reducible repeat (first | apply Kd.R_alloc | apply Kd.R_drewN | apply Kd.R_drew)); exact HO_5.out, by repeat (first | (with_reducible first | exact HB.out | apply below_alloc | apply pw_below_drewN | apply below_drew1) | exact HB.out)⟩
              · rw [if_neg c16] at H
                exact absurd H (by simp)
      · rw [if_neg c5] at H
        exact absurd H (by simp)
    · rw [if_neg c4] at H
      exact absurd H (by simp)
  · rw [if_neg c3] at H
    have c3b0 : (t132 == 0) = false := beq_eq_false_iff_ne.mpr c3
    have c3b1 : (t132 != 0) = true := bne_iff_ne.mpr c3
    obtain rfl := Option.some.inj H
    go_enter Try.func43, Try.ntmps43
    go_wp2_with (first | ((with_reducible refine gate_callee (f := 76) rfl ?_); refine goesL_ (some 16) rfl rfl Try.func76 (by kernel_rfl) rfl #[.slice A0 l0.length c0] rfl (by (try simp only [List.map_toArray, List.map_cons, List.map_nil]); first | done | rfl | (simp only [List.length_drop, List.length_take]; rfl)) ?_; (with_reducible refine (verify_whole.calls k _ _ l0 t131 t132 _ ?side1 ?side2 A2.out).mono ?_); (case side1 => repeat (first | exact HR0.out | (with_reducible refine Kd.C_alloc ?_ _) | (with_reducible refine Kd.C_drewN ?_ _) | (with_reducible refine Kd.C_drew ?_))); (case side2 => exact HC0.out); rintro e w49 ⟨rfl, hb⟩; refine ⟨_, rfl, ?_⟩; have n0_ := Aside0.mk (below_step (by repeat (first | (with_reducible first | exact HB.out | apply below_alloc | apply pw_below_drewN | apply below_drew1) | exact HB.out)) hb); clear HB; have HB := n0_; clear n0_; (try clear hb); (try clear hb2); (try clear hk); (try clear hi)))
    go_ret
    exact ⟨_, by first | rfl | (simp [errW_none, errW_some] <;> rfl) | (simp [*, errW_none, errW_some] <;> rfl), by first | exact Kd.R_nil _ _ _ _ _ | exact Kd.N_nil _ _ _ _ _ | exact Kd.V_nil _ _ _ _ _ | exact Kd.Q_nil _ _ _ _ _ | exact Kd.S_nil _ _ _ _ _, by repeat (first | (with_reducible first | exact HB.out | apply below_alloc | apply pw_below_drewN | apply below_drew1) | exact HB.out)⟩

end Go.Proofs.Ytmjpibeiglicdaa.X
