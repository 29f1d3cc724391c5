/- Functions of the program as plain Lean functions, and their contracts; written by a program out of the translation. -/
import Derived.Test.YtmjpibeiglicdaaT0
import Derived.Test.YtmjpibeiglicdaaT4
namespace Go.Proofs.Ytmjpibeiglicdaa.T
open Go.RowKit Go.Proofs.YtmjpibeiglicdaaV.PrintWords Go.Proofs.YtmjpibeiglicdaaV.PrintLast Go.Proofs.YtmjpibeiglicdaaV.PrintMore
attribute [local go_sem] max2_int min2_int max_two min_two max_three min_three max_four min_four   -- for this text's walks alone
set_option linter.unusedVariables false
set_option linter.unusedSimpArgs false

/-! ### tamisref24_Tree: function 32 -/
mutual
def tamisref24_Tree.j0 : Nat → Int → Int → Int → Bool → Int → Int → Int → Option ((List (S38)) × Int)
  | 0, _, _, _, _, _, _, _ => none
  | k + 1, x1, x2, x8, x76, x193000, x193001, x193002 => if x76 = true then (some ((([(⟨2, 0, 0, x193002, 0⟩ : S38)] : List (S38))), x2)) else (if x193000 = x193001 then ((tamisref24_ask.f 21 x193000 x193002 x1).bind fun bt196 => (some ((([(⟨bt196.1, bt196.2.1, bt196.2.2.1, bt196.2.2.2.1, bt196.2.2.2.2⟩ : S38)] : List (S38))), x2))) else (if x193000 = 0 then ((tamisref24_ask.f 37 x193001 x1 x193002).bind fun bt204 => (some ((([(⟨bt204.1, bt204.2.1, bt204.2.2.1, bt204.2.2.2.1, bt204.2.2.2.2⟩ : S38)] : List (S38))), x2))) else (if x193001 = x8 then ((tamisref24_ask.f 53 x193000 x193002 x1).bind fun bt212 => (some ((([(⟨bt212.1, bt212.2.1, bt212.2.2.1, bt212.2.2.2.1, bt212.2.2.2.2⟩ : S38)] : List (S38))), x2))) else ((tamisref24_ask.f 53 x193000 x2 x1).bind fun bt220 => ((tamisref24_ask.f 37 x193001 x1 x193002).bind fun bt225 => (some ((([(⟨bt220.1, bt220.2.1, bt220.2.2.1, bt220.2.2.2.1, bt220.2.2.2.2⟩ : S38), (⟨4, 0, 0, x2, 0⟩ : S38), (⟨bt225.1, bt225.2.1, bt225.2.2.1, bt225.2.2.2.1, bt225.2.2.2.2⟩ : S38)] : List (S38))), wrap64 (x2 + 1))))))))
def tamisref24_Tree.f : Nat → List (S119) → Int → Int → Option ((List (S38)) × Int)
  | 0, _, _, _ => none
  | k + 1, l0, a1, a2 => if (l0.length : Int) = 0 then (some ((([(⟨2, 0, 0, a1, 0⟩ : S38)] : List (S38))), a2)) else (if (l0.length : Int) > 1 then (if 0 ≤ (wrap64 ((l0.length : Int) / 2)) then (if (wrap64 ((l0.length : Int) / 2)) ≤ (l0.length : Int) then ((tamisref24_Tree.f k (l0.take ((wrap64 ((l0.length : Int) / 2)) : Int).toNat) a1 (wrap64 (a2 + 2))).bind fun bt161 => ((tamisref24_Tree.f k (l0.drop ((wrap64 ((l0.length : Int) / 2)) : Int).toNat) a1 bt161.2).bind fun bt169 => (if (wrap64 ((l0.length : Int) / 2)) < (l0.length : Int) then ((tamisref24_ask.f 53 ((rd_T119 l0 (wrap64 ((l0.length : Int) / 2))).f0) a2 (wrap64 (a2 + 1))).bind fun bt174 => ((some (([(⟨bt174.1, bt174.2.1, bt174.2.2.1, bt174.2.2.2.1, bt174.2.2.2.2⟩ : S38), (⟨4, 0, 0, wrap64 (a2 + 1), 0⟩ : S38)] : List (S38)) : List (S38))).bind fun y179 => (if y179.length + bt161.1.length < 4398046511104 then ((some (y179 ++ bt161.1 : List (S38))).bind fun y182 => (if y182.length < 4398046511104 then ((some (y182 ++ [(⟨4, 0, 0, a2, 0⟩ : S38)] : List (S38))).bind fun y185 => (if y185.length + bt169.1.length < 4398046511104 then (some ((y185 ++ bt169.1), bt169.2)) else (none))) else (none))) else (none)))) else (none)))) else (none)) else (none)) else (if 0 < (l0.length : Int) then (if ((rd_T119 l0 0).f0) = 0 then (tamisref24_Tree.j0 k a1 a2 4294967295 (((rd_T119 l0 0).f1) == 4294967295) ((rd_T119 l0 0).f0) ((rd_T119 l0 0).f1) ((rd_T119 l0 0).f2)) else (tamisref24_Tree.j0 k a1 a2 4294967295 false ((rd_T119 l0 0).f0) ((rd_T119 l0 0).f1) ((rd_T119 l0 0).f2))) else (none)))
end
theorem tamisref24_Tree.mono_l : ∀ k, (∀ y0 y1 y2, LeO (tamisref24_Tree.f k y0 y1 y2) (tamisref24_Tree.f (k + 1) y0 y1 y2)) ∧ (∀ y0 y1 y2 y3 y4 y5 y6, LeO (tamisref24_Tree.j0 k y0 y1 y2 y3 y4 y5 y6) (tamisref24_Tree.j0 (k + 1) y0 y1 y2 y3 y4 y5 y6))
  | 0 => ⟨fun _ _ _ r h => by simp [tamisref24_Tree.f] at h, fun _ _ _ _ _ _ _ r h => by simp [tamisref24_Tree.j0] at h⟩
  | k + 1 => by
    obtain ⟨ih0, ih1⟩ := tamisref24_Tree.mono_l k
    refine ⟨?_, ?_⟩
    · intro y0 y1 y2
      unfold tamisref24_Tree.f
      repeat' first
      | (with_reducible exact ih0 _ _ _)
      | (with_reducible exact ih1 _ _ _ _ _ _ _)
      | (with_reducible exact LeO.refl _)
      | (with_reducible exact LeO.none _)
      | (with_reducible refine LeO.ite ?_ ?_)
      | (with_reducible refine LeO.bind ?_ (fun _ => ?_))
      | exact ih0 _ _ _
      | exact ih1 _ _ _ _ _ _ _
      | exact LeO.none _
      | refine LeO.ite ?_ ?_
      | refine LeO.bind ?_ (fun _ => ?_)
    · intro y0 y1 y2 y3 y4 y5 y6
      unfold tamisref24_Tree.j0
      repeat' first
      | (with_reducible exact ih0 _ _ _)
      | (with_reducible exact ih1 _ _ _ _ _ _ _)
      | (with_reducible exact LeO.refl _)
      | (with_reducible exact LeO.none _)
      | (with_reducible refine LeO.ite ?_ ?_)
      | (with_reducible refine LeO.bind ?_ (fun _ => ?_))
      | exact ih0 _ _ _
      | exact ih1 _ _ _ _ _ _ _
      | exact LeO.none _
      | refine LeO.ite ?_ ?_
      | refine LeO.bind ?_ (fun _ => ?_)
theorem tamisref24_Tree.mono : ∀ a0 a1 a2 k, LeO (tamisref24_Tree.f k a0 a1 a2) (tamisref24_Tree.f (k + 1) a0 a1 a2) := by
  intro a0 a1 a2 k
  obtain ⟨ih0, ih1⟩ := tamisref24_Tree.mono_l k
  exact ih0 a0 a1 a2
def tamisref24_Tree.T21 : Bool × List (List Nat × List Nat) := (true, [([], []), ([0], [0]), ([], []), ([], []), ([1, 2, 3], [1, 2, 3]), ([], []), ([5], [5]), ([], []), ([7], [7]), ([], []), ([], []), ([10], [10]), ([8, 9, 11, 4], [8, 9, 11]), ([4, 6, 12], [4, 6, 12]), ([], []), ([14], [14]), ([13, 12, 0, 1, 2, 3, 4, 5, 6, 7, 8, 9, 10, 11, 12, 13], [13]), ([15, 16, 0, 1, 2, 3, 4, 5, 6, 7, 8, 9, 10, 11, 12, 13, 14, 15, 16], [15])])
def tamisref24_Tree.B21 : List Nat := [0, 1, 0, 0, 15, 0, 32, 0, 128, 0, 0, 1024, 3999, 8191, 0, 16384, 16383, 131071]
theorem tamisref24_Tree.tab21 : rtab .any (opsOf Try.f32 21) = tamisref24_Tree.T21 := by kernel_rfl
theorem tamisref24_Tree.bits21 : waitsOk tamisref24_Tree.T21.2 tamisref24_Tree.B21 = true := by kernel_rfl
set_option maxHeartbeats 8000000 in
set_option maxRecDepth 100000 in
theorem tamisref24_Tree.calls (k : Nat) : ∀ (A0 : Option Addr) (c0 : Nat) (l0 : List (S119)) (a1 : Int) (a2 : Int) (r1 : List (S38)) (r2 : Int) (w : World) (hr0 : Kd.C k119 w A0 l0.length l0) (hc0 : l0.length ≤ c0) (h : tamisref24_Tree.f k l0 a1 a2 = some (r1, r2)),
    Calls Try.prog 32 #[.slice A0 l0.length c0, .int .i64 a1, .int .i64 a2] w fun e w' => ∃ v0_ : Value, e = .returned (.tuple #[v0_, .int .i64 r2]) ∧ Kd.R k38 38 w' w.heap.size (fun _ => True) v0_ r1 ∧ Below w.heap.size w w' := by
  induction k using Nat.strongRecOn with
  | _ k ih =>
  intro A0 c0 l0 a1 a2 r1 r2 w hr0 hc0 h
  cases k with
  | zero => exact absurd h (by simp [tamisref24_Tree.f])
  | succ k =>
  simp only [tamisref24_Tree.f] at h
  have hu38 := Try.underlying38
  have hu119 := Try.underlying119
  have HR0 := Aside0.mk hr0
  have HC0 := Aside0.mk hc0
  clear hr0 hc0
  have HB := Aside0.mk (Below.refl w.heap.size w)
  have H : (if (l0.length : Int) = 0 then (some ((([(⟨2, 0, 0, a1, 0⟩ : S38)] : List (S38))), a2)) else (if (l0.length : Int) > 1 then (if 0 ≤ (wrap64 ((l0.length : Int) / 2)) then (if (wrap64 ((l0.length : Int) / 2)) ≤ (l0.length : Int) then ((tamisref24_Tree.f k (l0.take ((wrap64 ((l0.length : Int) / 2)) : Int).toNat) a1 (wrap64 (a2 + 2))).bind fun bt161 => ((tamisref24_Tree.f k (l0.drop ((wrap64 ((l0.length : Int) / 2)) : Int).toNat) a1 bt161.2).bind fun bt169 => (if (wrap64 ((l0.length : Int) / 2)) < (l0.length : Int) then ((tamisref24_ask.f 53 ((rd_T119 l0 (wrap64 ((l0.length : Int) / 2))).f0) a2 (wrap64 (a2 + 1))).bind fun bt174 => ((some (([(⟨bt174.1, bt174.2.1, bt174.2.2.1, bt174.2.2.2.1, bt174.2.2.2.2⟩ : S38), (⟨4, 0, 0, wrap64 (a2 + 1), 0⟩ : S38)] : List (S38)) : List (S38))).bind fun y179 => (if y179.length + bt161.1.length < 4398046511104 then ((some (y179 ++ bt161.1 : List (S38))).bind fun y182 => (if y182.length < 4398046511104 then ((some (y182 ++ [(⟨4, 0, 0, a2, 0⟩ : S38)] : List (S38))).bind fun y185 => (if y185.length + bt169.1.length < 4398046511104 then (some ((y185 ++ bt169.1), bt169.2)) else (none))) else (none))) else (none)))) else (none)))) else (none)) else (none)) else (if 0 < (l0.length : Int) then (if ((rd_T119 l0 0).f0) = 0 then (tamisref24_Tree.j0 k a1 a2 4294967295 (((rd_T119 l0 0).f1) == 4294967295) ((rd_T119 l0 0).f0) ((rd_T119 l0 0).f1) ((rd_T119 l0 0).f2)) else (tamisref24_Tree.j0 k a1 a2 4294967295 false ((rd_T119 l0 0).f0) ((rd_T119 l0 0).f1) ((rd_T119 l0 0).f2))) else (none)))) = some (r1, r2) := h
  clear h
  by_cases c4 : (l0.length : Int) = 0
  · rw [if_pos c4] at H
    have c4b0 : ((l0.length : Int) == 0) = true := beq_iff_eq.mpr c4
    have c4b1 : ((l0.length : Int) != 0) = false := bne_eq_false_iff_eq.mpr c4
    clear c4
    obtain ⟨y154, hy154⟩ : ∃ y_ : List (S38), y_ = (([(⟨2, 0, 0, a1, 0⟩ : S38)] : List (S38))) := ⟨_, rfl⟩
    replace H : (some (y154, a2)) = some (r1, r2) := by first | (rw [hy154]; with_reducible exact H) | (have H2_ := (Option.bind_some _ _).symm.trans H; rw [hy154]; with_reducible exact H2_) | (have H2_ := (Option.bind_some _ _).symm.trans H; with_reducible exact H2_) | with_reducible exact H | (rw [hy154]; exact H) | exact H
    have Ny154 := Aside0.mk hy154
    clear hy154
    simp only [Option.some.injEq, Prod.mk.injEq] at H
    obtain ⟨rfl, rfl⟩ := H
    go_enter Try.func32, Try.ntmps32
    go_wp2_with (first | ((with_reducible refine gate_dst (N := 21) rfl ?_); refine Kd.R_lit k38 _ 38 ?hg (N := 21) ?hd (xs := ([(⟨2, 0, 0, a1, 0⟩ : S38)] : List (S38))) (inner := [.int .i64 2, .int .u16 0, .int .u32 0, .int .i64 a1, .int .i64 0]) (ok := fun _ => True) (okp := fun _ => True) ?hr ?hp (fun _ hk => hk) trivial (Below.refl _ _) (Nat.le_refl _) (by simp) ?_; (case hd => rfl); (case hg => rfl); (case hr => first | (go_simp; done) | (go_simp; rfl)); (case hp => exact (Reps.c5 (show Kd.M k38 _ _ _ (⟨2, 0, 0, a1, 0⟩ : S38) [.int .i64 2, .int .u16 0, .int .u32 0, .int .i64 a1, .int .i64 0] from (k38_mkM _ _ _ (⟨2, 0, 0, a1, 0⟩ : S38) )) (Reps.none _ _))); intro v155 w5 ho6 hb hg_ hnew_; clear hg_ hnew_; (first | rw [← Ny154.out] at ho6 | (simp only [Int.reduceToNat] at ho6; rw [← Ny154.out] at ho6)); have n0_ := Aside0.mk (Kd.R_lower ho6 (below_size (by repeat (first | (with_reducible first | exact HB.out | apply below_alloc | apply pw_below_drewN | apply below_drew1) | exact HB.out)))); have n1_ := Aside0.mk (below_step (by repeat (first | (with_reducible first | exact HB.out | apply below_alloc | apply pw_below_drewN | apply below_drew1) | exact HB.out)) hb); clear HB; have HO156 := n0_; have HB := n1_; clear n0_ n1_; clear hb ho6))
    go_ret2
    exact ⟨_, by first | rfl | (simp [errW_none, errW_some] <;> rfl) | (simp [*, errW_none, errW_some] <;> rfl), by (with_reducible repeat (first | apply Kd.R_alloc | apply Kd.R_drewN | apply Kd.R_drew)); exact HO156.out, by repeat (first | (with_reducible first | exact HB.out | apply below_alloc | apply pw_below_drewN | apply below_drew1) | exact HB.out)⟩
  · rw [if_neg c4] at H
    have c4b0 : ((l0.length : Int) == 0) = false := beq_eq_false_iff_ne.mpr c4
    have c4b1 : ((l0.length : Int) != 0) = true := bne_iff_ne.mpr c4
    have c4b2 : ¬ (l0 = []) := fun h_ => c4 (by rw [h_]; rfl)
    by_cases c7 : (l0.length : Int) > 1
    · rw [if_pos c7] at H
      have c7b0 : decide (1 < (l0.length : Int)) = true := decide_eq_true c7
      have c7b1 : decide (1 < l0.length) = true := decide_eq_true (by omega)
      clear c7
      obtain ⟨ji8, hji8⟩ : ∃ j_ : Int, (wrap64 ((l0.length : Int) / 2)) = j_ := ⟨_, rfl⟩
      replace H : (if 0 ≤ (ji8) then (if (ji8) ≤ (l0.length : Int) then ((tamisref24_Tree.f k (l0.take ((ji8) : Int).toNat) a1 (wrap64 (a2 + 2))).bind fun bt161 => ((tamisref24_Tree.f k (l0.drop ((ji8) : Int).toNat) a1 bt161.2).bind fun bt169 => (if (ji8) < (l0.length : Int) then ((tamisref24_ask.f 53 ((rd_T119 l0 (ji8)).f0) a2 (wrap64 (a2 + 1))).bind fun bt174 => ((some (([(⟨bt174.1, bt174.2.1, bt174.2.2.1, bt174.2.2.2.1, bt174.2.2.2.2⟩ : S38), (⟨4, 0, 0, wrap64 (a2 + 1), 0⟩ : S38)] : List (S38)) : List (S38))).bind fun y179 => (if y179.length + bt161.1.length < 4398046511104 then ((some (y179 ++ bt161.1 : List (S38))).bind fun y182 => (if y182.length < 4398046511104 then ((some (y182 ++ [(⟨4, 0, 0, a2, 0⟩ : S38)] : List (S38))).bind fun y185 => (if y185.length + bt169.1.length < 4398046511104 then (some ((y185 ++ bt169.1), bt169.2)) else (none))) else (none))) else (none)))) else (none)))) else (none)) else (none)) = some (r1, r2) := by first | (rw [hji8] at H; exact H) | (simp only [hji8] at H ⊢; exact H)
      have hji8w : (IntKind.i64.wrap ((l0.length : Int) / 2)) = ji8 := (i64_w _).trans hji8
      by_cases c9 : 0 ≤ (ji8)
      · rw [if_pos c9] at H
        have c9b0 := eq_true c9
        have c9b1 : decide (0 ≤ (ji8)) = true := decide_eq_true c9
        clear c9
        by_cases c10 : (ji8) ≤ (l0.length : Int)
        · rw [if_pos c10] at H
          have c10b0 := eq_true c10
          have c10b1 : decide ((ji8) ≤ (l0.length : Int)) = true := decide_eq_true c10
          clear c10
          obtain ⟨y157, hy157⟩ : ∃ y_ : List (S119), y_ = (l0.take ((ji8) : Int).toNat) := ⟨_, rfl⟩
          replace H : ((tamisref24_Tree.f k y157 a1 (wrap64 (a2 + 2))).bind fun bt161 => ((tamisref24_Tree.f k (l0.drop ((ji8) : Int).toNat) a1 bt161.2).bind fun bt169 => (if (ji8) < (l0.length : Int) then ((tamisref24_ask.f 53 ((rd_T119 l0 (ji8)).f0) a2 (wrap64 (a2 + 1))).bind fun bt174 => ((some (([(⟨bt174.1, bt174.2.1, bt174.2.2.1, bt174.2.2.2.1, bt174.2.2.2.2⟩ : S38), (⟨4, 0, 0, wrap64 (a2 + 1), 0⟩ : S38)] : List (S38)) : List (S38))).bind fun y179 => (if y179.length + bt161.1.length < 4398046511104 then ((some (y179 ++ bt161.1 : List (S38))).bind fun y182 => (if y182.length < 4398046511104 then ((some (y182 ++ [(⟨4, 0, 0, a2, 0⟩ : S38)] : List (S38))).bind fun y185 => (if y185.length + bt169.1.length < 4398046511104 then (some ((y185 ++ bt169.1), bt169.2)) else (none))) else (none))) else (none)))) else (none)))) = some (r1, r2) := by first | (rw [hy157]; with_reducible exact H) | (have H2_ := (Option.bind_some _ _).symm.trans H; rw [hy157]; with_reducible exact H2_) | (have H2_ := (Option.bind_some _ _).symm.trans H; with_reducible exact H2_) | with_reducible exact H | (rw [hy157]; exact H) | exact H
          have Ny157 := Aside0.mk hy157
          clear hy157
          replace H := Option.bind_eq_some_iff.mp H
          obtain ⟨⟨t161, t162⟩, A110, H⟩ := H
          replace H : ((tamisref24_Tree.f k (l0.drop ((ji8) : Int).toNat) a1 t162).bind fun bt169 => (if (ji8) < (l0.length : Int) then ((tamisref24_ask.f 53 ((rd_T119 l0 (ji8)).f0) a2 (wrap64 (a2 + 1))).bind fun bt174 => ((some (([(⟨bt174.1, bt174.2.1, bt174.2.2.1, bt174.2.2.2.1, bt174.2.2.2.2⟩ : S38), (⟨4, 0, 0, wrap64 (a2 + 1), 0⟩ : S38)] : List (S38)) : List (S38))).bind fun y179 => (if y179.length + t161.length < 4398046511104 then ((some (y179 ++ t161 : List (S38))).bind fun y182 => (if y182.length < 4398046511104 then ((some (y182 ++ [(⟨4, 0, 0, a2, 0⟩ : S38)] : List (S38))).bind fun y185 => (if y185.length + bt169.1.length < 4398046511104 then (some ((y185 ++ bt169.1), bt169.2)) else (none))) else (none))) else (none)))) else (none))) = some (r1, r2) := H
          have A11 := Aside0.mk A110
          clear A110
          have c12b0 := eq_true (of_decide_eq_true (by first | (with_reducible assumption) | assumption) : 0 ≤ (ji8))
          have c13b0 := eq_true (of_decide_eq_true (by first | (with_reducible assumption) | assumption) : (ji8) ≤ (l0.length : Int))
          obtain ⟨y165, hy165⟩ : ∃ y_ : List (S119), y_ = (l0.drop ((ji8) : Int).toNat) := ⟨_, rfl⟩
          replace H : ((tamisref24_Tree.f k y165 a1 t162).bind fun bt169 => (if (ji8) < (l0.length : Int) then ((tamisref24_ask.f 53 ((rd_T119 l0 (ji8)).f0) a2 (wrap64 (a2 + 1))).bind fun bt174 => ((some (([(⟨bt174.1, bt174.2.1, bt174.2.2.1, bt174.2.2.2.1, bt174.2.2.2.2⟩ : S38), (⟨4, 0, 0, wrap64 (a2 + 1), 0⟩ : S38)] : List (S38)) : List (S38))).bind fun y179 => (if y179.length + t161.length < 4398046511104 then ((some (y179 ++ t161 : List (S38))).bind fun y182 => (if y182.length < 4398046511104 then ((some (y182 ++ [(⟨4, 0, 0, a2, 0⟩ : S38)] : List (S38))).bind fun y185 => (if y185.length + bt169.1.length < 4398046511104 then (some ((y185 ++ bt169.1), bt169.2)) else (none))) else (none))) else (none)))) else (none))) = some (r1, r2) := by first | (rw [hy165]; with_reducible exact H) | (have H2_ := (Option.bind_some _ _).symm.trans H; rw [hy165]; with_reducible exact H2_) | (have H2_ := (Option.bind_some _ _).symm.trans H; with_reducible exact H2_) | with_reducible exact H | (rw [hy165]; exact H) | exact H
          have Ny165 := Aside0.mk hy165
          clear hy165
          replace H := Option.bind_eq_some_iff.mp H
          obtain ⟨⟨t169, t170⟩, A140, H⟩ := H
          replace H : (if (ji8) < (l0.length : Int) then ((tamisref24_ask.f 53 ((rd_T119 l0 (ji8)).f0) a2 (wrap64 (a2 + 1))).bind fun bt174 => ((some (([(⟨bt174.1, bt174.2.1, bt174.2.2.1, bt174.2.2.2.1, bt174.2.2.2.2⟩ : S38), (⟨4, 0, 0, wrap64 (a2 + 1), 0⟩ : S38)] : List (S38)) : List (S38))).bind fun y179 => (if y179.length + t161.length < 4398046511104 then ((some (y179 ++ t161 : List (S38))).bind fun y182 => (if y182.length < 4398046511104 then ((some (y182 ++ [(⟨4, 0, 0, a2, 0⟩ : S38)] : List (S38))).bind fun y185 => (if y185.length + t169.length < 4398046511104 then (some ((y185 ++ t169), t170)) else (none))) else (none))) else (none)))) else (none)) = some (r1, r2) := H
          have A14 := Aside0.mk A140
          clear A140
          by_cases c15 : (ji8) < (l0.length : Int)
          · rw [if_pos c15] at H
            have c15b0 : decide ((ji8) < (l0.length : Int)) = true := decide_eq_true c15
            clear c15
            replace H := Option.bind_eq_some_iff.mp H
            obtain ⟨⟨t174, t175, t176, t177, t178⟩, A160, H⟩ := H
            replace H : ((some (([(⟨t174, t175, t176, t177, t178⟩ : S38), (⟨4, 0, 0, wrap64 (a2 + 1), 0⟩ : S38)] : List (S38)) : List (S38))).bind fun y179 => (if y179.length + t161.length < 4398046511104 then ((some (y179 ++ t161 : List (S38))).bind fun y182 => (if y182.length < 4398046511104 then ((some (y182 ++ [(⟨4, 0, 0, a2, 0⟩ : S38)] : List (S38))).bind fun y185 => (if y185.length + t169.length < 4398046511104 then (some ((y185 ++ t169), t170)) else (none))) else (none))) else (none))) = some (r1, r2) := H
            have A16 := Aside0.mk A160
            clear A160
            obtain ⟨y179, hy179⟩ : ∃ y_ : List (S38), y_ = (([(⟨t174, t175, t176, t177, t178⟩ : S38), (⟨4, 0, 0, wrap64 (a2 + 1), 0⟩ : S38)] : List (S38))) := ⟨_, rfl⟩
            replace H : (if y179.length + t161.length < 4398046511104 then ((some (y179 ++ t161 : List (S38))).bind fun y182 => (if y182.length < 4398046511104 then ((some (y182 ++ [(⟨4, 0, 0, a2, 0⟩ : S38)] : List (S38))).bind fun y185 => (if y185.length + t169.length < 4398046511104 then (some ((y185 ++ t169), t170)) else (none))) else (none))) else (none)) = some (r1, r2) := by first | (rw [hy179]; with_reducible exact H) | (have H2_ := (Option.bind_some _ _).symm.trans H; rw [hy179]; with_reducible exact H2_) | (have H2_ := (Option.bind_some _ _).symm.trans H; with_reducible exact H2_) | with_reducible exact H | (rw [hy179]; exact H) | exact H
            have Ny179 := Aside0.mk hy179
            clear hy179
            by_cases c17 : y179.length + t161.length < 4398046511104
            · rw [if_pos c17] at H
              have LMc17 := Aside0.mk c17
              clear c17
              obtain ⟨y182, hy182⟩ : ∃ y_ : List (S38), y_ = (y179 ++ t161) := ⟨_, rfl⟩
              replace H : (if y182.length < 4398046511104 then ((some (y182 ++ [(⟨4, 0, 0, a2, 0⟩ : S38)] : List (S38))).bind fun y185 => (if y185.length + t169.length < 4398046511104 then (some ((y185 ++ t169), t170)) else (none))) else (none)) = some (r1, r2) := by first | (rw [hy182]; with_reducible exact H) | (have H2_ := (Option.bind_some _ _).symm.trans H; rw [hy182]; with_reducible exact H2_) | (have H2_ := (Option.bind_some _ _).symm.trans H; with_reducible exact H2_) | with_reducible exact H | (rw [hy182]; exact H) | exact H
              have Ny182 := Aside0.mk hy182
              clear hy182
              by_cases c18 : y182.length < 4398046511104
              · rw [if_pos c18] at H
                have LMc18 := Aside0.mk c18
                clear c18
                obtain ⟨y185, hy185⟩ : ∃ y_ : List (S38), y_ = (y182 ++ [(⟨4, 0, 0, a2, 0⟩ : S38)]) := ⟨_, rfl⟩
                replace H : (if y185.length + t169.length < 4398046511104 then (some ((y185 ++ t169), t170)) else (none)) = some (r1, r2) := by first | (rw [hy185]; with_reducible exact H) | (have H2_ := (Option.bind_some _ _).symm.trans H; rw [hy185]; with_reducible exact H2_) | (have H2_ := (Option.bind_some _ _).symm.trans H; with_reducible exact H2_) | with_reducible exact H | (rw [hy185]; exact H) | exact H
                have Ny185 := Aside0.mk hy185
                clear hy185
                by_cases c19 : y185.length + t169.length < 4398046511104
                · rw [if_pos c19] at H
                  have LMc19 := Aside0.mk c19
                  clear c19
                  obtain ⟨y188, hy188⟩ : ∃ y_ : List (S38), y_ = (y185 ++ t169) := ⟨_, rfl⟩
                  replace H : (some (y188, t170)) = some (r1, r2) := by first | (rw [hy188]; with_reducible exact H) | (have H2_ := (Option.bind_some _ _).symm.trans H; rw [hy188]; with_reducible exact H2_) | (have H2_ := (Option.bind_some _ _).symm.trans H; with_reducible exact H2_) | with_reducible exact H | (rw [hy188]; exact H) | exact H
                  have Ny188 := Aside0.mk hy188
                  clear hy188
                  simp only [Option.some.injEq, Prod.mk.injEq] at H
                  obtain ⟨rfl, rfl⟩ := H
                  have q20 : ((ji8) : Int) ≤ ((l0.length : Int) : Int) := of_decide_eq_true (by first | (with_reducible assumption) | assumption)
                  obtain ⟨i020, hi020, _, hsz20, _⟩ := info_parts info119
                  have hroom20 : l0.length ≤ c0 := HC0.out
                  have hC20 : Kd.C k119 _ A0 l0.length l0 := HR0.out
                  have hcut20 := cut_to (P := Try.prog) 29 119 .i64 Try.underlying29 hi020 A0 l0.length c0 (ji8) (of_decide_eq_true (by first | (with_reducible assumption) | assumption)) q20 hroom20
                  have hr20 := Kd.C_take (m := ((ji8) : Int).toNat) hC20 (by omega)
                  have hy20 : y157.length = ((ji8) : Int).toNat := (by rw [Ny157.out, List.length_take]; omega)
                  rw [← Ny157.out] at hr20
                  rw [← hy20] at hcut20
                  have HR160 := Aside0.mk hr20
                  have HC160 := Aside0.mk (show y157.length ≤ c0 from by omega)
                  clear hr20 hC20 hroom20 hi020 hsz20
                  have KY20 := Aside0.mk hy20
                  clear hy20
                  replace q20 := eq_true q20
                  go_enter Try.func32, Try.ntmps32
                  go_wp2_with (first | ((with_reducible refine gate_callee (f := 32) rfl ?_); refine goesL_ (some 36) rfl rfl Try.func32 (by kernel_rfl) rfl #[.slice A0 y157.length c0, .int .i64 a1, .int .i64 (wrap64 (a2 + 2))] rfl (by (try simp only [List.map_toArray, List.map_cons, List.map_nil]); first | done | rfl | (simp only [List.length_drop, List.length_take]; rfl)) ?_; (with_reducible refine (ih k (by omega) _ _ y157 a1 (wrap64 (a2 + 2)) t161 t162 _ ?side1 ?side2 A11.out).mono ?_); (case side1 => repeat (first | exact HR160.out | (with_reducible refine Kd.C_alloc ?_ _) | (with_reducible refine Kd.C_drewN ?_ _) | (with_reducible refine Kd.C_drew ?_))); (case side2 => exact HC160.out); rintro e w21 ⟨v163, rfl, ho0, hb⟩; refine ⟨_, rfl, ?_⟩; have n0_ := Aside0.mk (Kd.R_lower ho0 (below_size (by repeat (first | (with_reducible first | exact HB.out | apply below_alloc | apply pw_below_drewN | apply below_drew1) | exact HB.out)))); have n1_ := Aside0.mk (below_step (by repeat (first | (with_reducible first | exact HB.out | apply below_alloc | apply pw_below_drewN | apply below_drew1) | exact HB.out)) hb); clear HB; have HO164 := n0_; have HB := n1_; clear n0_ n1_; (try clear hb); (try clear hb2); (try clear hk); (try clear hi); (try clear ho0); have q22 : ((ji8) : Int) ≤ ((l0.length : Int) : Int) := of_decide_eq_true (by first | (with_reducible assumption) | assumption); obtain ⟨i022, hi022, _, hsz22, _⟩ := info_parts info119; have hroom22 : l0.length ≤ c0 := HC0.out; have hC22 : Kd.C k119 _ A0 l0.length l0 := HR0.out; have q022 : (0 : Int) ≤ ((ji8) : Int) := of_decide_eq_true (by first | (with_reducible assumption) | assumption); have hcut22 := cut_from (P := Try.prog) 29 119 .i64 Try.underlying29 hi022 3 hsz22 A0 l0.length c0 (ji8) q022 q22; have hr22 := Kd.C_drop (m := ((ji8) : Int).toNat) (c := c0) hC22 (by omega) hroom22; obtain ⟨A22, hA22⟩ : ∃ A1, A1 = (if c0 = ((ji8) : Int).toNat then A0 else (A0 : Option Addr).map (·.add (((ji8) : Int).toNat * 3))) := ⟨_, rfl⟩; obtain ⟨c22, hc22⟩ : ∃ c1, c1 = c0 - ((ji8) : Int).toNat := ⟨_, rfl⟩; have hy22 : y165.length = l0.length - ((ji8) : Int).toNat := (by rw [Ny165.out, List.length_drop] <;> omega); rw [show (l0).drop ((ji8) : Int).toNat = y165 from Ny165.out.symm] at hr22; replace hr22 : Kd.C k119 _ A22 y165.length y165 := (by rw [hA22]; exact hr22); rw [← hy22, ← hA22, ← hc22] at hcut22; have HR168 := Aside0.mk hr22; have HC168 := Aside0.mk (show y165.length ≤ c22 from by rw [hy22, hc22]; exact Nat.sub_le_sub_right hroom22 _); clear hr22 hC22 hroom22 hi022 hsz22 hc22; have KY22 := Aside0.mk hy22; have KA22 := Aside0.mk hA22; clear hy22 hA22; replace q22 := eq_true q22) | ((with_reducible refine gate_callee (f := 32) rfl ?_); refine goesL_ (some 45) rfl rfl Try.func32 (by kernel_rfl) rfl #[.slice A22 y165.length c22, .int .i64 a1, .int .i64 t162] rfl (by (try simp only [List.map_toArray, List.map_cons, List.map_nil]); first | done | rfl | (simp only [List.length_drop, List.length_take]; rfl)) ?_; (with_reducible refine (ih k (by omega) _ _ y165 a1 t162 t169 t170 _ ?side1 ?side2 A14.out).mono ?_); (case side1 => repeat (first | exact (Kd.C_below HR168.out HB.out) | (with_reducible refine Kd.C_alloc ?_ _) | (with_reducible refine Kd.C_drewN ?_ _) | (with_reducible refine Kd.C_drew ?_))); (case side2 => exact HC168.out); rintro e w23 ⟨v171, rfl, ho0, hb⟩; refine ⟨_, rfl, ?_⟩; have n0_ := Aside0.mk (Kd.R_elder' (by (with_reducible repeat (first | apply Kd.R_alloc | apply Kd.R_drewN | apply Kd.R_drew)); exact HO164.out) (Kd.R_base ho0) hb); have n1_ := Aside0.mk (Kd.R_lower (Kd.R_new' ho0 (Kd.R_lt (by (with_reducible repeat (first | apply Kd.R_alloc | apply Kd.R_drewN | apply Kd.R_drew)); exact HO164.out))) (below_size (by repeat (first | (with_reducible first | exact HB.out | apply below_alloc | apply pw_below_drewN | apply below_drew1) | exact HB.out)))); have n2_ := Aside0.mk (below_step (by repeat (first | (with_reducible first | exact HB.out | apply below_alloc | apply pw_below_drewN | apply below_drew1) | exact HB.out)) hb); clear HO164; clear HB; have HO164 := n0_; have HO172 := n1_; have HB := n2_; clear n0_ n1_ n2_; (try clear hb); (try clear hb2); (try clear hk); (try clear hi); (try clear ho0); have p173 : 0 ≤ ((ji8) : Int) := of_decide_eq_true (by first | (with_reducible assumption) | assumption); have q173 : (ji8) < (l0.length : Int) := of_decide_eq_true (by first | (with_reducible assumption) | assumption); obtain ⟨ad173, e173, hx173_0, hx173_1, hx173_2⟩ := at_T119 HR0.out (ji8) p173 q173; cases e173; replace hx173_0 := (HB.out.cell (World.block_lt_of_cell? w _ hx173_0)).trans hx173_0; replace hx173_1 := (HB.out.cell (World.block_lt_of_cell? w _ hx173_1)).trans hx173_1; replace hx173_2 := (HB.out.cell (World.block_lt_of_cell? w _ hx173_2)).trans hx173_2; replace p173 := eq_true p173; replace q173 := eq_true q173) | ((with_reducible refine gate_callee (f := 74) rfl ?_); refine goesL_ (some 56) rfl rfl Try.func74 (by kernel_rfl) rfl #[.int .u16 53, .int .u32 ((rd_T119 l0 (ji8)).f0), .int .i64 a2, .int .i64 (wrap64 (a2 + 1))] rfl (by (try simp only [List.map_toArray, List.map_cons, List.map_nil]); first | done | (simp only [hji8]; rfl) | rfl | (simp only [List.length_drop, List.length_take]; rfl)) ?_; (with_reducible refine (tamisref24_ask.calls 53 ((rd_T119 l0 (ji8)).f0) a2 (wrap64 (a2 + 1)) t174 t175 t176 t177 t178 _ A16.out).mono ?_); rintro e w24 ⟨rfl, hb⟩; refine ⟨_, rfl, ?_⟩; have n0_ := Aside0.mk (Kd.R_below (by (with_reducible repeat (first | apply Kd.R_alloc | apply Kd.R_drewN | apply Kd.R_drew)); exact HO164.out) hb); have n1_ := Aside0.mk (Kd.R_below (by (with_reducible repeat (first | apply Kd.R_alloc | apply Kd.R_drewN | apply Kd.R_drew)); exact HO172.out) hb); have n2_ := Aside0.mk (below_step (by repeat (first | (with_reducible first | exact HB.out | apply below_alloc | apply pw_below_drewN | apply below_drew1) | exact HB.out)) hb); clear HO164; clear HO172; clear HB; have HO164 := n0_; have HO172 := n1_; have HB := n2_; clear n0_ n1_ n2_; (try clear hb); (try clear hb2); (try clear hk); (try clear hi)) | ((with_reducible refine gate_dst (N := 60) rfl ?_); refine Kd.R_lit k38 _ 38 ?hg (N := 60) ?hd (xs := ([(⟨t174, t175, t176, t177, t178⟩ : S38), (⟨4, 0, 0, wrap64 (a2 + 1), 0⟩ : S38)] : List (S38))) (inner := [.int .i64 t174, .int .u16 t175, .int .u32 t176, .int .i64 t177, .int .i64 t178, .int .i64 4, .int .u16 0, .int .u32 0, .int .i64 (wrap64 (a2 + 1)), .int .i64 0]) (ok := fun _ => True) (okp := fun _ => True) ?hr ?hp (fun _ hk => hk) trivial (Below.refl _ _) (Nat.le_refl _) (by simp) ?_; (case hd => rfl); (case hg => rfl); (case hr => first | (go_simp; done) | (go_simp; rfl)); (case hp => exact (Reps.c5 (show Kd.M k38 _ _ _ (⟨t174, t175, t176, t177, t178⟩ : S38) [.int .i64 t174, .int .u16 t175, .int .u32 t176, .int .i64 t177, .int .i64 t178] from (k38_mkM _ _ _ (⟨t174, t175, t176, t177, t178⟩ : S38) )) (Reps.c5 (show Kd.M k38 _ _ _ (⟨4, 0, 0, wrap64 (a2 + 1), 0⟩ : S38) [.int .i64 4, .int .u16 0, .int .u32 0, .int .i64 (wrap64 (a2 + 1)), .int .i64 0] from (k38_mkM _ _ _ (⟨4, 0, 0, wrap64 (a2 + 1), 0⟩ : S38) )) (Reps.none _ _)))); intro v180 w25 ho26 hb hg_ hnew_; clear hg_ hnew_; (first | rw [← Ny179.out] at ho26 | (simp only [Int.reduceToNat] at ho26; rw [← Ny179.out] at ho26)); have n0_ := Aside0.mk (Kd.R_elder' (by (with_reducible repeat (first | apply Kd.R_alloc | apply Kd.R_drewN | apply Kd.R_drew)); exact HO164.out) (Kd.R_base ho26) hb); have n1_ := Aside0.mk (Kd.R_elder' (by (with_reducible repeat (first | apply Kd.R_alloc | apply Kd.R_drewN | apply Kd.R_drew)); exact HO172.out) (Kd.R_base ho26) hb); have n2_ := Aside0.mk (Kd.R_lower (Kd.R_new' (Kd.R_new' ho26 (Kd.R_lt (by (with_reducible repeat (first | apply Kd.R_alloc | apply Kd.R_drewN | apply Kd.R_drew)); exact HO164.out))) (Kd.R_lt (by (with_reducible repeat (first | apply Kd.R_alloc | apply Kd.R_drewN | apply Kd.R_drew)); exact HO172.out))) (below_size (by repeat (first | (with_reducible first | exact HB.out | apply below_alloc | apply pw_below_drewN | apply below_drew1) | exact HB.out)))); have n3_ := Aside0.mk (below_step (by repeat (first | (with_reducible first | exact HB.out | apply below_alloc | apply pw_below_drewN | apply below_drew1) | exact HB.out)) hb); clear HO164; clear HO172; clear HB; have HO164 := n0_; have HO172 := n1_; have HO181 := n2_; have HB := n3_; clear n0_ n1_ n2_ n3_; clear hb ho26; obtain ⟨Ao28, co28, eo28⟩ := Kd.R_slice HO164.out; subst eo28) | ((with_reducible refine gate_builtin (b := .append) (xs := #[.tmp 61, .tmp 62]) rfl ?_); at_builtin; refine Kd.R_append_rows k38 (w0 := w) w.heap.size rfl (.tmp 61) (.tmp 62) 31 38 (.agg #[(.int .i64 0), (.int .u16 0), (.int .u32 0), (.int .i64 0), (.int .i64 0)]) 32 rfl Try.underlying31 info38 rfl (by decide) (by omega) v180 y179 t161 _ _ _ (fun k_ => some k_ ≠ (.slice Ao28 t161.length co28 : Value).ownBlock ∧ some k_ ≠ (v171 : Value).ownBlock) (fun _ => False) rfl rfl ?aO ?aR (fun _ _ h => h) (fun _ h => h.elim) ?aF ?aB ?aS ?aL ?_; (case aR => repeat (first | exact (Kd.R_reads' HO164.out).2.2 | (with_reducible refine Kd.C_alloc ?_ _) | (with_reducible refine Kd.C_drewN ?_ _) | (with_reducible refine Kd.C_drew ?_))); (case aB => exact (by repeat (first | (with_reducible first | exact HB.out | apply below_alloc | apply pw_below_drewN | apply below_drew1) | exact HB.out))); (case aF => exact (fun k_ hk => ⟨Kd.fresh' (Kd.R_lt (by (with_reducible repeat (first | apply Kd.R_alloc | apply Kd.R_drewN | apply Kd.R_drew)); exact HO164.out)) k_ hk, Kd.fresh' (Kd.R_lt (by (with_reducible repeat (first | apply Kd.R_alloc | apply Kd.R_drewN | apply Kd.R_drew)); exact HO172.out)) k_ hk⟩)); (case aO => exact (by (with_reducible repeat (first | apply Kd.R_alloc | apply Kd.R_drewN | apply Kd.R_drew)); exact Kd.R_mono HO181.out (fun _ hk => ⟨hk.1.2, hk.2⟩))); (case aS => exact (below_size (by repeat (first | (with_reducible first | exact HB.out | apply below_alloc | apply pw_below_drewN | apply below_drew1) | exact HB.out)))); (case aL => have := LMc17.out; omega); intro v183 w27 ho hb hg hat; rw [← Ny182.out] at ho; have n0_ := Aside0.mk (Kd.R_after (ok := (fun k_ => some k_ ≠ (v171 : Value).ownBlock)) (by (with_reducible repeat (first | apply Kd.R_alloc | apply Kd.R_drewN | apply Kd.R_drew)); exact Kd.R_mono HO164.out (fun _ hk => ⟨hk.1.2, hk.2⟩)) hg hat); have n1_ := Aside0.mk (Kd.R_after (ok := (fun k_ => some k_ ≠ (.slice Ao28 t161.length co28 : Value).ownBlock)) (by (with_reducible repeat (first | apply Kd.R_alloc | apply Kd.R_drewN | apply Kd.R_drew)); exact Kd.R_mono HO172.out (fun _ hk => ⟨hk.1.2, hk.2⟩)) hg hat); have n2_ := Aside0.mk (hb); have n3_ := Aside0.mk (ho); clear HO164; clear HO172; clear HB; clear HO181; have HO164 := n0_; have HO172 := n1_; have HB := n2_; have HO184 := n3_; clear n0_ n1_ n2_ n3_; clear ho hb hg hat) | ((with_reducible refine gate_builtin (b := .append) (xs := #[.tmp 64, .tmp 67]) rfl ?_); at_builtin; refine Kd.R_append k38 (w0 := w) w.heap.size rfl (.tmp 64) (.tmp 67) 31 38 (.agg #[(.int .i64 0), (.int .u16 0), (.int .u32 0), (.int .i64 0), (.int .i64 0)]) 32 rfl Try.underlying31 info38 rfl (by decide) (by omega) v183 y182 (⟨4, 0, 0, a2, 0⟩ : S38) [.int .i64 4, .int .u16 0, .int .u32 0, .int .i64 a2, .int .i64 0] (fun k_ => some k_ ≠ (.slice Ao28 t161.length co28 : Value).ownBlock ∧ some k_ ≠ (v171 : Value).ownBlock) (fun _ => False) rfl rfl ?aP (fun _ hk => hk.elim) ?aF ?aO ?aB ?aS ?aL ?_; (case aP => exact k38_mkM _ _ _ (⟨4, 0, 0, a2, 0⟩ : S38)); (case aB => exact (by repeat (first | (with_reducible first | exact HB.out | apply below_alloc | apply pw_below_drewN | apply below_drew1) | exact HB.out))); (case aF => exact (fun k_ hk => ⟨Kd.fresh' (Kd.R_lt (by (with_reducible repeat (first | apply Kd.R_alloc | apply Kd.R_drewN | apply Kd.R_drew)); exact HO164.out)) k_ hk, Kd.fresh' (Kd.R_lt (by (with_reducible repeat (first | apply Kd.R_alloc | apply Kd.R_drewN | apply Kd.R_drew)); exact HO172.out)) k_ hk⟩)); (case aO => exact (by (with_reducible repeat (first | apply Kd.R_alloc | apply Kd.R_drewN | apply Kd.R_drew)); exact HO184.out)); (case aS => exact (below_size (by repeat (first | (with_reducible first | exact HB.out | apply below_alloc | apply pw_below_drewN | apply below_drew1) | exact HB.out)))); (case aL => have := LMc18.out; omega); intro v186 w29 ho hb hg hat; rw [← Ny185.out] at ho; have n0_ := Aside0.mk (Kd.R_after (ok := (fun k_ => some k_ ≠ (v171 : Value).ownBlock)) (by (with_reducible repeat (first | apply Kd.R_alloc | apply Kd.R_drewN | apply Kd.R_drew)); exact HO164.out) hg hat); have n1_ := Aside0.mk (Kd.R_after (ok := (fun k_ => some k_ ≠ (.slice Ao28 t161.length co28 : Value).ownBlock)) (by (with_reducible repeat (first | apply Kd.R_alloc | apply Kd.R_drewN | apply Kd.R_drew)); exact HO172.out) hg hat); have n2_ := Aside0.mk (hb); have n3_ := Aside0.mk (ho); clear HO164; clear HO172; clear HB; clear HO184; have HO164 := n0_; have HO172 := n1_; have HB := n2_; have HO187 := n3_; clear n0_ n1_ n2_ n3_; clear ho hb hg hat; obtain ⟨Ao31, co31, eo31⟩ := Kd.R_slice HO172.out; subst eo31) | ((with_reducible refine gate_builtin (b := .append) (xs := #[.tmp 69, .tmp 70]) rfl ?_); at_builtin; refine Kd.R_append_rows k38 (w0 := w) w.heap.size rfl (.tmp 69) (.tmp 70) 31 38 (.agg #[(.int .i64 0), (.int .u16 0), (.int .u32 0), (.int .i64 0), (.int .i64 0)]) 32 rfl Try.underlying31 info38 rfl (by decide) (by omega) v186 y185 t169 _ _ _ (fun k_ => some k_ ≠ (.slice Ao28 t161.length co28 : Value).ownBlock ∧ some k_ ≠ (.slice Ao31 t169.length co31 : Value).ownBlock) (fun _ => False) rfl rfl ?aO ?aR (fun _ _ h => h) (fun _ h => h.elim) ?aF ?aB ?aS ?aL ?_; (case aR => repeat (first | exact (Kd.R_reads' HO172.out).2.2 | (with_reducible refine Kd.C_alloc ?_ _) | (with_reducible refine Kd.C_drewN ?_ _) | (with_reducible refine Kd.C_drew ?_))); (case aB => exact (by repeat (first | (with_reducible first | exact HB.out | apply below_alloc | apply pw_below_drewN | apply below_drew1) | exact HB.out))); (case aF => exact (fun k_ hk => ⟨Kd.fresh' (Kd.R_lt (by (with_reducible repeat (first | apply Kd.R_alloc | apply Kd.R_drewN | apply Kd.R_drew)); exact HO164.out)) k_ hk, Kd.fresh' (Kd.R_lt (by (with_reducible repeat (first | apply Kd.R_alloc | apply Kd.R_drewN | apply Kd.R_drew)); exact HO172.out)) k_ hk⟩)); (case aO => exact (by (with_reducible repeat (first | apply Kd.R_alloc | apply Kd.R_drewN | apply Kd.R_drew)); exact HO187.out)); (case aS => exact (below_size (by repeat (first | (with_reducible first | exact HB.out | apply below_alloc | apply pw_below_drewN | apply below_drew1) | exact HB.out)))); (case aL => have := LMc19.out; omega); intro v189 w30 ho hb hg hat; rw [← Ny188.out] at ho; have n0_ := Aside0.mk (Kd.R_after (ok := (fun k_ => some k_ ≠ (.slice Ao31 t169.length co31 : Value).ownBlock)) (by (with_reducible repeat (first | apply Kd.R_alloc | apply Kd.R_drewN | apply Kd.R_drew)); exact HO164.out) hg hat); have n1_ := Aside0.mk (Kd.R_after (ok := (fun k_ => some k_ ≠ (.slice Ao28 t161.length co28 : Value).ownBlock)) (by (with_reducible repeat (first | apply Kd.R_alloc | apply Kd.R_drewN | apply Kd.R_drew)); exact HO172.out) hg hat); have n2_ := Aside0.mk (hb); have n3_ := Aside0.mk (ho); clear HO164; clear HO172; clear HB; clear HO187; have HO164 := n0_; have HO172 := n1_; have HB := n2_; have HO190 := n3_; clear n0_ n1_ n2_ n3_; clear ho hb hg hat))
                  go_ret2
                  exact ⟨_, by first | rfl | (simp [errW_none, errW_some] <;> rfl) | (simp only [← hji8]; first | rfl | (simp [errW_none, errW_some] <;> rfl)) | (simp [*, errW_none, errW_some] <;> rfl), by (with_reducible repeat (first | apply Kd.R_alloc | apply Kd.R_drewN | apply Kd.R_drew)); exact Kd.R_mono HO190.out (fun _ hk => trivial), by repeat (first | (with_reducible first | exact HB.out | apply below_alloc | apply pw_below_drewN | apply below_drew1) | exact HB.out)⟩
                · rw [if_neg c19] at H
                  exact absurd H (by simp)
              · rw [if_neg c18] at H
                exact absurd H (by simp)
            · rw [if_neg c17] at H
              exact absurd H (by simp)
          · rw [if_neg c15] at H
            exact absurd H (by simp)
        · rw [if_neg c10] at H
          exact absurd H (by simp)
      · rw [if_neg c9] at H
        exact absurd H (by simp)
    · rw [if_neg c7] at H
      have c7b0 : decide (1 < (l0.length : Int)) = false := decide_eq_false c7
      have c7b1 : decide (1 < l0.length) = false := decide_eq_false (by omega)
      clear c7
      by_cases c32 : 0 < (l0.length : Int)
      · rw [if_pos c32] at H
        have c32b0 : decide (0 < (l0.length : Int)) = true := decide_eq_true c32
        have c32b1 : decide (0 < l0.length) = true := decide_eq_true (by omega)
        clear c32
        have HC33 := Aside0.mk H
        clear H
        have p191 : 0 ≤ (0 : Int) := (by omega)
        have q191 : 0 < (l0.length : Int) := of_decide_eq_true (by first | (with_reducible assumption) | assumption)
        obtain ⟨ad191, e191, hx191_0, hx191_1, hx191_2⟩ := at_T119 HR0.out 0 p191 q191
        cases e191
        have qi191 : (0 < l0.length) = True := eq_true (by omega)
        (try rw [show ((0 : Int)).toNat = 0 from rfl] at hx191_0)
        (try rw [show 0 * 3 = 0 from rfl] at hx191_0)
        (try rw [Addr.add_zero'] at hx191_0)
        (try rw [show ((0 : Int)).toNat = 0 from rfl] at hx191_1)
        (try rw [show 0 * 3 = 0 from rfl] at hx191_1)
        (try rw [Addr.add_zero'] at hx191_1)
        (try rw [show ((0 : Int)).toNat = 0 from rfl] at hx191_2)
        (try rw [show 0 * 3 = 0 from rfl] at hx191_2)
        (try rw [Addr.add_zero'] at hx191_2)
        replace p191 := eq_true p191
        replace q191 := eq_true q191
        go_enter Try.func32, Try.ntmps32
        go_upto_region 13 with (first | ((with_reducible refine gate_dst (N := 15) rfl ?_); refine box_event ?hg (N := 15) ?hd (cs := #[.int .u32 0, .int .u32 0, .int .i64 0]) (t := 119) ?hr ?_; (case hd => rfl); (case hg => rfl); (case hr => first | (go_simp; done) | (go_simp; rfl)); intro gb192 hg w34 hbox hb; have n0_ := Aside0.mk (below_step (by repeat (first | (with_reducible first | exact HB.out | apply below_alloc | apply pw_below_drewN | apply below_drew1) | exact HB.out)) hb); have n1_ := Aside0.mk (hbox); have n2_ := Aside0.mk ((by rw [hg]; exact (below_size (by repeat (first | (with_reducible first | exact HB.out | apply below_alloc | apply pw_below_drewN | apply below_drew1) | exact HB.out))) : w.heap.size ≤ gb192)); have n3_ := Aside0.mk ((by rw [hg]; exact (below_size (by repeat (first | (with_reducible first | exact HB.out | apply below_alloc | apply pw_below_drewN | apply below_drew1) | exact HB.out))) : w.heap.size ≤ gb192)); clear HB; have HB := n0_; have BK192 := n1_; have GW192 := n2_; have GE192 := n3_; clear n0_ n1_ n2_ n3_; clear hb hbox hg; have hcz35_0 : w34.cell? ⟨gb192, 0, none⟩ = some (.int .u32 0) := (blk_cell BK192.out 0).trans rfl; have hcz35_1 : w34.cell? ⟨gb192, 1, none⟩ = some (.int .u32 0) := (blk_cell BK192.out 1).trans rfl; have hcz35_2 : w34.cell? ⟨gb192, 2, none⟩ = some (.int .i64 0) := (blk_cell BK192.out 2).trans rfl; have hfz35_0 := blk_frozen BK192.out 0; have hfz35_1 := blk_frozen BK192.out 1; have hfz35_2 := blk_frozen BK192.out 2))
        (try simp only [Act.put, List.setIfInBounds_toArray, List.set_cons_zero, List.set_cons_succ])
        go_cut [76] (fun v76 wc => ∃ (kq : Nat) (x76_32 : Bool), v76 = .bool x76_32 ∧ Aside0 (tamisref24_Tree.j0 kq a1 a2 4294967295 x76_32 ((rd_T119 l0 0).f0) ((rd_T119 l0 0).f1) ((rd_T119 l0 0).f2) = some (r1, r2)) ∧ Aside0 (kq ≤ k) ∧ Aside0 (wc.heap[gb192]? = some (.cells #[.int .u32 ((rd_T119 l0 0).f0), .int .u32 ((rd_T119 l0 0).f1), .int .i64 ((rd_T119 l0 0).f2)] 119 (0, 0))) ∧ Aside0 (Below w.heap.size w wc))
        case first =>
          have H := HC33.out
          clear HC33
          by_cases c36 : ((rd_T119 l0 0).f0) = 0
          · rw [if_pos c36] at H
            have c36b0 : (((rd_T119 l0 0).f0) == 0) = true := beq_iff_eq.mpr c36
            have c36b1 : (((rd_T119 l0 0).f0) != 0) = false := bne_eq_false_iff_eq.mpr c36
            clear c36
            (first | rw [c36b0] | (simp only [i64_w, i32_w]; rw [c36b0]) | skip)
            have H' := Aside0.mk H
            clear H
            have hcz37_0 : w34.cell? ⟨gb192, 0, none⟩ = some (.int .u32 0) := (blk_cell BK192.out 0).trans rfl
            have hcz37_1 : w34.cell? ⟨gb192, 1, none⟩ = some (.int .u32 0) := (blk_cell BK192.out 1).trans rfl
            have hcz37_2 : w34.cell? ⟨gb192, 2, none⟩ = some (.int .i64 0) := (blk_cell BK192.out 2).trans rfl
            have hfz37_0 := blk_frozen BK192.out 0
            have hfz37_1 := blk_frozen BK192.out 1
            have hfz37_2 := blk_frozen BK192.out 2
            go_wp2
            go_meet
            case rel => exact ⟨_, ((((rd_T119 l0 0).f1) == 4294967295)), (by first | rfl | (simp; done) | (simp [*]; done)), H', ⟨by first | omega | exact Nat.le_refl _⟩, ⟨by (with_reducible repeat (first | refine blk_drewN ?_ _ | refine blk_drew ?_ | refine blk_alloc ?_ _)); refine blk_put (cs := #[.int .u32 ((rd_T119 l0 0).f0), .int .u32 ((rd_T119 l0 0).f1), .int .i64 0]) ?_ 2 _ rfl; (with_reducible repeat (first | refine blk_drewN ?_ _ | refine blk_drew ?_ | refine blk_alloc ?_ _)); refine blk_put (cs := #[.int .u32 ((rd_T119 l0 0).f0), .int .u32 0, .int .i64 0]) ?_ 1 _ rfl; (with_reducible repeat (first | refine blk_drewN ?_ _ | refine blk_drew ?_ | refine blk_alloc ?_ _)); refine blk_put (cs := #[.int .u32 0, .int .u32 0, .int .i64 0]) ?_ 0 _ rfl; (with_reducible repeat (first | refine blk_drewN ?_ _ | refine blk_drew ?_ | refine blk_alloc ?_ _)); exact BK192.out⟩, ⟨by repeat (first | (with_reducible first | exact HB.out | apply below_alloc | apply pw_below_drewN | apply below_drew1 | refine below_set ?_ GE192.out) | exact HB.out)⟩⟩
          · rw [if_neg c36] at H
            have c36b0 : (((rd_T119 l0 0).f0) == 0) = false := beq_eq_false_iff_ne.mpr c36
            have c36b1 : (((rd_T119 l0 0).f0) != 0) = true := bne_iff_ne.mpr c36
            (first | rw [c36b0] | (simp only [i64_w, i32_w]; rw [c36b0]) | skip)
            have H' := Aside0.mk H
            clear H
            have hcz38_0 : w34.cell? ⟨gb192, 0, none⟩ = some (.int .u32 0) := (blk_cell BK192.out 0).trans rfl
            have hcz38_1 : w34.cell? ⟨gb192, 1, none⟩ = some (.int .u32 0) := (blk_cell BK192.out 1).trans rfl
            have hcz38_2 : w34.cell? ⟨gb192, 2, none⟩ = some (.int .i64 0) := (blk_cell BK192.out 2).trans rfl
            have hfz38_0 := blk_frozen BK192.out 0
            have hfz38_1 := blk_frozen BK192.out 1
            have hfz38_2 := blk_frozen BK192.out 2
            go_wp2
            go_meet
            case rel => exact ⟨_, (false), (by first | rfl | (simp; done) | (simp [*]; done)), H', ⟨by first | omega | exact Nat.le_refl _⟩, ⟨by (with_reducible repeat (first | refine blk_drewN ?_ _ | refine blk_drew ?_ | refine blk_alloc ?_ _)); refine blk_put (cs := #[.int .u32 ((rd_T119 l0 0).f0), .int .u32 ((rd_T119 l0 0).f1), .int .i64 0]) ?_ 2 _ rfl; (with_reducible repeat (first | refine blk_drewN ?_ _ | refine blk_drew ?_ | refine blk_alloc ?_ _)); refine blk_put (cs := #[.int .u32 ((rd_T119 l0 0).f0), .int .u32 0, .int .i64 0]) ?_ 1 _ rfl; (with_reducible repeat (first | refine blk_drewN ?_ _ | refine blk_drew ?_ | refine blk_alloc ?_ _)); refine blk_put (cs := #[.int .u32 0, .int .u32 0, .int .i64 0]) ?_ 0 _ rfl; (with_reducible repeat (first | refine blk_drewN ?_ _ | refine blk_drew ?_ | refine blk_alloc ?_ _)); exact BK192.out⟩, ⟨by repeat (first | (with_reducible first | exact HB.out | apply below_alloc | apply pw_below_drewN | apply below_drew1 | refine below_set ?_ GE192.out) | exact HB.out)⟩⟩
        case rest =>
          clear HC33
          try clear c1
          try clear p1
          try clear q1
          try clear hx1
          try clear qi1
          try clear c2
          try clear p2
          try clear q2
          try clear c3
          try clear c4
          try clear c4b0
          try clear c4b1
          try clear c4b2
          try clear c5
          try clear p6
          try clear c7
          try clear c7b0
          try clear c7b1
          try clear c9
          try clear c9b0
          try clear c9b1
          try clear c10
          try clear c10b0
          try clear c10b1
          try clear c12
          try clear c12b0
          try clear c13
          try clear c13b0
          try clear c15
          try clear c15b0
          try clear c17
          try clear p17
          try clear q17
          try clear hx17
          try clear c18
          try clear c19
          try clear p19
          try clear q19
          try clear hx19
          try clear qi19
          try clear q20
          try clear c22
          try clear q22
          try clear c32
          try clear c32b0
          try clear c32b1
          try clear c36
          try clear c36b0
          try clear c36b1
          try clear hcz35_0
          try clear hcz35_1
          try clear hcz35_2
          try clear hcz37_0
          try clear hcz37_1
          try clear hcz37_2
          try clear hcz38_0
          try clear hcz38_1
          try clear hcz38_2
          try clear hfz35_0
          try clear hfz35_1
          try clear hfz35_2
          try clear hfz37_0
          try clear hfz37_1
          try clear hfz37_2
          try clear hfz38_0
          try clear hfz38_1
          try clear hfz38_2
          try clear hx173_0
          try clear hx173_1
          try clear hx173_2
          try clear hx191_0
          try clear hx191_1
          try clear hx191_2
          try clear p173
          try clear p191
          try clear q022
          try clear q173
          try clear q191
          try clear q20
          try clear q22
          obtain ⟨kq, x76_32, rfl, HA, HJ32, BK192, HB⟩ := hcut
          cases kq with
          | zero => exact absurd HA.out (by simp [tamisref24_Tree.j0])
          | succ kj32 =>
            have H := HA.out
            clear HA
            simp only [tamisref24_Tree.j0] at H
            by_cases c39 : x76_32 = true
            · subst c39
              have H1 : (some ((([(⟨2, 0, 0, ((rd_T119 l0 0).f2), 0⟩ : S38)] : List (S38))), a2)) = some (r1, r2) := by rw [if_pos rfl] at H; exact H
              clear H
              have H := H1
              clear H1
              obtain ⟨y193, hy193⟩ : ∃ y_ : List (S38), y_ = (([(⟨2, 0, 0, ((rd_T119 l0 0).f2), 0⟩ : S38)] : List (S38))) := ⟨_, rfl⟩
              replace H : (some (y193, a2)) = some (r1, r2) := by first | (rw [hy193]; with_reducible exact H) | (have H2_ := (Option.bind_some _ _).symm.trans H; rw [hy193]; with_reducible exact H2_) | (have H2_ := (Option.bind_some _ _).symm.trans H; with_reducible exact H2_) | with_reducible exact H | (rw [hy193]; exact H) | exact H
              have Ny193 := Aside0.mk hy193
              clear hy193
              simp only [Option.some.injEq, Prod.mk.injEq] at H
              obtain ⟨rfl, rfl⟩ := H
              have hcz40_0 : wc.cell? ⟨gb192, 0, none⟩ = some (.int .u32 ((rd_T119 l0 0).f0)) := (blk_cell BK192.out 0).trans rfl
              have hcz40_1 : wc.cell? ⟨gb192, 1, none⟩ = some (.int .u32 ((rd_T119 l0 0).f1)) := (blk_cell BK192.out 1).trans rfl
              have hcz40_2 : wc.cell? ⟨gb192, 2, none⟩ = some (.int .i64 ((rd_T119 l0 0).f2)) := (blk_cell BK192.out 2).trans rfl
              have hfz40_0 := blk_frozen BK192.out 0
              have hfz40_1 := blk_frozen BK192.out 1
              have hfz40_2 := blk_frozen BK192.out 2
              go_wp2_with (first | ((with_reducible refine gate_dst (N := 89) rfl ?_); refine Kd.R_lit k38 _ 38 ?hg (N := 89) ?hd (xs := ([(⟨2, 0, 0, ((rd_T119 l0 0).f2), 0⟩ : S38)] : List (S38))) (inner := [.int .i64 2, .int .u16 0, .int .u32 0, .int .i64 ((rd_T119 l0 0).f2), .int .i64 0]) (ok := fun _ => True) (okp := fun _ => True) ?hr ?hp (fun _ hk => hk) trivial (Below.refl _ _) (Nat.le_refl _) (by simp) ?_; (case hd => rfl); (case hg => rfl); (case hr => first | (go_simp; done) | (go_simp; rfl)); (case hp => exact (Reps.c5 (show Kd.M k38 _ _ _ (⟨2, 0, 0, ((rd_T119 l0 0).f2), 0⟩ : S38) [.int .i64 2, .int .u16 0, .int .u32 0, .int .i64 ((rd_T119 l0 0).f2), .int .i64 0] from (k38_mkM _ _ _ (⟨2, 0, 0, ((rd_T119 l0 0).f2), 0⟩ : S38) )) (Reps.none _ _))); intro v194 w41 ho42 hb hg_ hnew_; clear hg_ hnew_; (first | rw [← Ny193.out] at ho42 | (simp only [Int.reduceToNat] at ho42; rw [← Ny193.out] at ho42)); have n0_ := Aside0.mk (Kd.R_lower ho42 (below_size (by repeat (first | (with_reducible first | exact HB.out | apply below_alloc | apply pw_below_drewN | apply below_drew1 | refine below_set ?_ GE192.out) | exact HB.out)))); have n1_ := Aside0.mk (blk_below (g := gb192) (o := .cells #[.int .u32 ((rd_T119 l0 0).f0), .int .u32 ((rd_T119 l0 0).f1), .int .i64 ((rd_T119 l0 0).f2)] 119 (0, 0)) (by (with_reducible repeat (first | refine blk_drewN ?_ _ | refine blk_drew ?_ | refine blk_alloc ?_ _)); exact BK192.out) hb); have n2_ := Aside0.mk (below_step (by repeat (first | (with_reducible first | exact HB.out | apply below_alloc | apply pw_below_drewN | apply below_drew1 | refine below_set ?_ GE192.out) | exact HB.out)) hb); clear BK192; clear HB; have HO195 := n0_; have BK192 := n1_; have HB := n2_; clear n0_ n1_ n2_; clear hb ho42))
              go_ret2
              exact ⟨_, by first | rfl | (simp [errW_none, errW_some] <;> rfl) | (simp [*, errW_none, errW_some] <;> rfl), by (with_reducible repeat (first | apply Kd.R_alloc | apply Kd.R_drewN | apply Kd.R_drew)); exact HO195.out, by repeat (first | (with_reducible first | exact HB.out | apply below_alloc | apply pw_below_drewN | apply below_drew1 | refine below_set ?_ GE192.out) | exact HB.out)⟩
            · replace c39 := Bool.eq_false_iff.mpr c39
              subst c39
              have H1 : (if ((rd_T119 l0 0).f0) = ((rd_T119 l0 0).f1) then ((tamisref24_ask.f 21 ((rd_T119 l0 0).f0) ((rd_T119 l0 0).f2) a1).bind fun bt196 => (some ((([(⟨bt196.1, bt196.2.1, bt196.2.2.1, bt196.2.2.2.1, bt196.2.2.2.2⟩ : S38)] : List (S38))), a2))) else (if ((rd_T119 l0 0).f0) = 0 then ((tamisref24_ask.f 37 ((rd_T119 l0 0).f1) a1 ((rd_T119 l0 0).f2)).bind fun bt204 => (some ((([(⟨bt204.1, bt204.2.1, bt204.2.2.1, bt204.2.2.2.1, bt204.2.2.2.2⟩ : S38)] : List (S38))), a2))) else (if ((rd_T119 l0 0).f1) = 4294967295 then ((tamisref24_ask.f 53 ((rd_T119 l0 0).f0) ((rd_T119 l0 0).f2) a1).bind fun bt212 => (some ((([(⟨bt212.1, bt212.2.1, bt212.2.2.1, bt212.2.2.2.1, bt212.2.2.2.2⟩ : S38)] : List (S38))), a2))) else ((tamisref24_ask.f 53 ((rd_T119 l0 0).f0) a2 a1).bind fun bt220 => ((tamisref24_ask.f 37 ((rd_T119 l0 0).f1) a1 ((rd_T119 l0 0).f2)).bind fun bt225 => (some ((([(⟨bt220.1, bt220.2.1, bt220.2.2.1, bt220.2.2.2.1, bt220.2.2.2.2⟩ : S38), (⟨4, 0, 0, a2, 0⟩ : S38), (⟨bt225.1, bt225.2.1, bt225.2.2.1, bt225.2.2.2.1, bt225.2.2.2.2⟩ : S38)] : List (S38))), wrap64 (a2 + 1)))))))) = some (r1, r2) := by rw [if_neg (show ¬ (false = true) by decide)] at H; exact H
              clear H
              have H := H1
              clear H1
              by_cases c43 : ((rd_T119 l0 0).f0) = ((rd_T119 l0 0).f1)
              · rw [if_pos c43] at H
                have c43b0 : (((rd_T119 l0 0).f0) == ((rd_T119 l0 0).f1)) = true := beq_iff_eq.mpr c43
                have c43b1 : (((rd_T119 l0 0).f0) != ((rd_T119 l0 0).f1)) = false := bne_eq_false_iff_eq.mpr c43
                clear c43
                replace H := Option.bind_eq_some_iff.mp H
                obtain ⟨⟨t196, t197, t198, t199, t200⟩, A440, H⟩ := H
                replace H : (some ((([(⟨t196, t197, t198, t199, t200⟩ : S38)] : List (S38))), a2)) = some (r1, r2) := H
                have A44 := Aside0.mk A440
                clear A440
                obtain ⟨y201, hy201⟩ : ∃ y_ : List (S38), y_ = (([(⟨t196, t197, t198, t199, t200⟩ : S38)] : List (S38))) := ⟨_, rfl⟩
                replace H : (some (y201, a2)) = some (r1, r2) := by first | (rw [hy201]; with_reducible exact H) | (have H2_ := (Option.bind_some _ _).symm.trans H; rw [hy201]; with_reducible exact H2_) | (have H2_ := (Option.bind_some _ _).symm.trans H; with_reducible exact H2_) | with_reducible exact H | (rw [hy201]; exact H) | exact H
                have Ny201 := Aside0.mk hy201
                clear hy201
                simp only [Option.some.injEq, Prod.mk.injEq] at H
                obtain ⟨rfl, rfl⟩ := H
                have hcz45_0 : wc.cell? ⟨gb192, 0, none⟩ = some (.int .u32 ((rd_T119 l0 0).f0)) := (blk_cell BK192.out 0).trans rfl
                have hcz45_1 : wc.cell? ⟨gb192, 1, none⟩ = some (.int .u32 ((rd_T119 l0 0).f1)) := (blk_cell BK192.out 1).trans rfl
                have hcz45_2 : wc.cell? ⟨gb192, 2, none⟩ = some (.int .i64 ((rd_T119 l0 0).f2)) := (blk_cell BK192.out 2).trans rfl
                have hfz45_0 := blk_frozen BK192.out 0
                have hfz45_1 := blk_frozen BK192.out 1
                have hfz45_2 := blk_frozen BK192.out 2
                go_wp2_with (first | ((with_reducible refine gate_callee (f := 74) rfl ?_); refine goesL_ (some 102) rfl rfl Try.func74 (by kernel_rfl) rfl #[.int .u16 21, .int .u32 ((rd_T119 l0 0).f0), .int .i64 ((rd_T119 l0 0).f2), .int .i64 a1] rfl (by (try simp only [List.map_toArray, List.map_cons, List.map_nil]); first | done | rfl | (simp only [List.length_drop, List.length_take]; rfl)) ?_; (with_reducible refine (tamisref24_ask.calls 21 ((rd_T119 l0 0).f0) ((rd_T119 l0 0).f2) a1 t196 t197 t198 t199 t200 _ A44.out).mono ?_); rintro e w46 ⟨rfl, hb⟩; refine ⟨_, rfl, ?_⟩; have n0_ := Aside0.mk (blk_below (g := gb192) (o := .cells #[.int .u32 ((rd_T119 l0 0).f0), .int .u32 ((rd_T119 l0 0).f1), .int .i64 ((rd_T119 l0 0).f2)] 119 (0, 0)) (by (with_reducible repeat (first | refine blk_drewN ?_ _ | refine blk_drew ?_ | refine blk_alloc ?_ _)); exact BK192.out) hb); have n1_ := Aside0.mk (below_step (by repeat (first | (with_reducible first | exact HB.out | apply below_alloc | apply pw_below_drewN | apply below_drew1 | refine below_set ?_ GE192.out) | exact HB.out)) hb); clear BK192; clear HB; have BK192 := n0_; have HB := n1_; clear n0_ n1_; (try clear hb); (try clear hb2); (try clear hk); (try clear hi)) | ((with_reducible refine gate_dst (N := 103) rfl ?_); refine Kd.R_lit k38 _ 38 ?hg (N := 103) ?hd (xs := ([(⟨t196, t197, t198, t199, t200⟩ : S38)] : List (S38))) (inner := [.int .i64 t196, .int .u16 t197, .int .u32 t198, .int .i64 t199, .int .i64 t200]) (ok := fun _ => True) (okp := fun _ => True) ?hr ?hp (fun _ hk => hk) trivial (Below.refl _ _) (Nat.le_refl _) (by simp) ?_; (case hd => rfl); (case hg => rfl); (case hr => first | (go_simp; done) | (go_simp; rfl)); (case hp => exact (Reps.c5 (show Kd.M k38 _ _ _ (⟨t196, t197, t198, t199, t200⟩ : S38) [.int .i64 t196, .int .u16 t197, .int .u32 t198, .int .i64 t199, .int .i64 t200] from (k38_mkM _ _ _ (⟨t196, t197, t198, t199, t200⟩ : S38) )) (Reps.none _ _))); intro v202 w47 ho48 hb hg_ hnew_; clear hg_ hnew_; (first | rw [← Ny201.out] at ho48 | (simp only [Int.reduceToNat] at ho48; rw [← Ny201.out] at ho48)); have n0_ := Aside0.mk (Kd.R_lower ho48 (below_size (by repeat (first | (with_reducible first | exact HB.out | apply below_alloc | apply pw_below_drewN | apply below_drew1 | refine below_set ?_ GE192.out) | exact HB.out)))); have n1_ := Aside0.mk (blk_below (g := gb192) (o := .cells #[.int .u32 ((rd_T119 l0 0).f0), .int .u32 ((rd_T119 l0 0).f1), .int .i64 ((rd_T119 l0 0).f2)] 119 (0, 0)) (by (with_reducible repeat (first | refine blk_drewN ?_ _ | refine blk_drew ?_ | refine blk_alloc ?_ _)); exact BK192.out) hb); have n2_ := Aside0.mk (below_step (by repeat (first | (with_reducible first | exact HB.out | apply below_alloc | apply pw_below_drewN | apply below_drew1 | refine below_set ?_ GE192.out) | exact HB.out)) hb); clear BK192; clear HB; have HO203 := n0_; have BK192 := n1_; have HB := n2_; clear n0_ n1_ n2_; clear hb ho48))
                go_ret2
                exact ⟨_, by first | rfl | (simp [errW_none, errW_some] <;> rfl) | (simp [*, errW_none, errW_some] <;> rfl), by (with_reducible repeat (first | apply Kd.R_alloc | apply Kd.R_drewN | apply Kd.R_drew)); exact HO203.out, by repeat (first | (with_reducible first | exact HB.out | apply below_alloc | apply pw_below_drewN | apply below_drew1 | refine below_set ?_ GE192.out) | exact HB.out)⟩
              · rw [if_neg c43] at H
                have c43b0 : (((rd_T119 l0 0).f0) == ((rd_T119 l0 0).f1)) = false := beq_eq_false_iff_ne.mpr c43
                have c43b1 : (((rd_T119 l0 0).f0) != ((rd_T119 l0 0).f1)) = true := bne_iff_ne.mpr c43
                by_cases c49 : ((rd_T119 l0 0).f0) = 0
                · rw [if_pos c49] at H
                  have c49b0 : (((rd_T119 l0 0).f0) == 0) = true := beq_iff_eq.mpr c49
                  have c49b1 : (((rd_T119 l0 0).f0) != 0) = false := bne_eq_false_iff_eq.mpr c49
                  clear c49
                  replace H := Option.bind_eq_some_iff.mp H
                  obtain ⟨⟨t204, t205, t206, t207, t208⟩, A500, H⟩ := H
                  replace H : (some ((([(⟨t204, t205, t206, t207, t208⟩ : S38)] : List (S38))), a2)) = some (r1, r2) := H
                  have A50 := Aside0.mk A500
                  clear A500
                  obtain ⟨y209, hy209⟩ : ∃ y_ : List (S38), y_ = (([(⟨t204, t205, t206, t207, t208⟩ : S38)] : List (S38))) := ⟨_, rfl⟩
                  replace H : (some (y209, a2)) = some (r1, r2) := by first | (rw [hy209]; with_reducible exact H) | (have H2_ := (Option.bind_some _ _).symm.trans H; rw [hy209]; with_reducible exact H2_) | (have H2_ := (Option.bind_some _ _).symm.trans H; with_reducible exact H2_) | with_reducible exact H | (rw [hy209]; exact H) | exact H
                  have Ny209 := Aside0.mk hy209
                  clear hy209
                  simp only [Option.some.injEq, Prod.mk.injEq] at H
                  obtain ⟨rfl, rfl⟩ := H
                  have hcz51_0 : wc.cell? ⟨gb192, 0, none⟩ = some (.int .u32 ((rd_T119 l0 0).f0)) := (blk_cell BK192.out 0).trans rfl
                  have hcz51_1 : wc.cell? ⟨gb192, 1, none⟩ = some (.int .u32 ((rd_T119 l0 0).f1)) := (blk_cell BK192.out 1).trans rfl
                  have hcz51_2 : wc.cell? ⟨gb192, 2, none⟩ = some (.int .i64 ((rd_T119 l0 0).f2)) := (blk_cell BK192.out 2).trans rfl
                  have hfz51_0 := blk_frozen BK192.out 0
                  have hfz51_1 := blk_frozen BK192.out 1
                  have hfz51_2 := blk_frozen BK192.out 2
                  go_wp2_with (first | ((with_reducible refine gate_callee (f := 74) rfl ?_); refine goesL_ (some 114) rfl rfl Try.func74 (by kernel_rfl) rfl #[.int .u16 37, .int .u32 ((rd_T119 l0 0).f1), .int .i64 a1, .int .i64 ((rd_T119 l0 0).f2)] rfl (by (try simp only [List.map_toArray, List.map_cons, List.map_nil]); first | done | rfl | (simp only [List.length_drop, List.length_take]; rfl)) ?_; (with_reducible refine (tamisref24_ask.calls 37 ((rd_T119 l0 0).f1) a1 ((rd_T119 l0 0).f2) t204 t205 t206 t207 t208 _ A50.out).mono ?_); rintro e w52 ⟨rfl, hb⟩; refine ⟨_, rfl, ?_⟩; have n0_ := Aside0.mk (blk_below (g := gb192) (o := .cells #[.int .u32 ((rd_T119 l0 0).f0), .int .u32 ((rd_T119 l0 0).f1), .int .i64 ((rd_T119 l0 0).f2)] 119 (0, 0)) (by (with_reducible repeat (first | refine blk_drewN ?_ _ | refine blk_drew ?_ | refine blk_alloc ?_ _)); exact BK192.out) hb); have n1_ := Aside0.mk (below_step (by repeat (first | (with_reducible first | exact HB.out | apply below_alloc | apply pw_below_drewN | apply below_drew1 | refine below_set ?_ GE192.out) | exact HB.out)) hb); clear BK192; clear HB; have BK192 := n0_; have HB := n1_; clear n0_ n1_; (try clear hb); (try clear hb2); (try clear hk); (try clear hi)) | ((with_reducible refine gate_dst (N := 115) rfl ?_); refine Kd.R_lit k38 _ 38 ?hg (N := 115) ?hd (xs := ([(⟨t204, t205, t206, t207, t208⟩ : S38)] : List (S38))) (inner := [.int .i64 t204, .int .u16 t205, .int .u32 t206, .int .i64 t207, .int .i64 t208]) (ok := fun _ => True) (okp := fun _ => True) ?hr ?hp (fun _ hk => hk) trivial (Below.refl _ _) (Nat.le_refl _) (by simp) ?_; (case hd => rfl); (case hg => rfl); (case hr => first | (go_simp; done) | (go_simp; rfl)); (case hp => exact (Reps.c5 (show Kd.M k38 _ _ _ (⟨t204, t205, t206, t207, t208⟩ : S38) [.int .i64 t204, .int .u16 t205, .int .u32 t206, .int .i64 t207, .int .i64 t208] from (k38_mkM _ _ _ (⟨t204, t205, t206, t207, t208⟩ : S38) )) (Reps.none _ _))); intro v210 w53 ho54 hb hg_ hnew_; clear hg_ hnew_; (first | rw [← Ny209.out] at ho54 | (simp only [Int.reduceToNat] at ho54; rw [← Ny209.out] at ho54)); have n0_ := Aside0.mk (Kd.R_lower ho54 (below_size (by repeat (first | (with_reducible first | exact HB.out | apply below_alloc | apply pw_below_drewN | apply below_drew1 | refine below_set ?_ GE192.out) | exact HB.out)))); have n1_ := Aside0.mk (blk_below (g := gb192) (o := .cells #[.int .u32 ((rd_T119 l0 0).f0), .int .u32 ((rd_T119 l0 0).f1), .int .i64 ((rd_T119 l0 0).f2)] 119 (0, 0)) (by (with_reducible repeat (first | refine blk_drewN ?_ _ | refine blk_drew ?_ | refine blk_alloc ?_ _)); exact BK192.out) hb); have n2_ := Aside0.mk (below_step (by repeat (first | (with_reducible first | exact HB.out | apply below_alloc | apply pw_below_drewN | apply below_drew1 | refine below_set ?_ GE192.out) | exact HB.out)) hb); clear BK192; clear HB; have HO211 := n0_; have BK192 := n1_; have HB := n2_; clear n0_ n1_ n2_; clear hb ho54))
                  go_ret2
                  exact ⟨_, by first | rfl | (simp [errW_none, errW_some] <;> rfl) | (simp [*, errW_none, errW_some] <;> rfl), by (with_reducible repeat (first | apply Kd.R_alloc | apply Kd.R_drewN | apply Kd.R_drew)); exact HO211.out, by repeat (first | (with_reducible first | exact HB.out | apply below_alloc | apply pw_below_drewN | apply below_drew1 | refine below_set ?_ GE192.out) | exact HB.out)⟩
                · rw [if_neg c49] at H
                  have c49b0 : (((rd_T119 l0 0).f0) == 0) = false := beq_eq_false_iff_ne.mpr c49
                  have c49b1 : (((rd_T119 l0 0).f0) != 0) = true := bne_iff_ne.mpr c49
                  by_cases c55 : ((rd_T119 l0 0).f1) = 4294967295
                  · rw [if_pos c55] at H
                    have c55b0 : (((rd_T119 l0 0).f1) == 4294967295) = true := beq_iff_eq.mpr c55
                    have c55b1 : (((rd_T119 l0 0).f1) != 4294967295) = false := bne_eq_false_iff_eq.mpr c55
                    clear c55
                    replace H := Option.bind_eq_some_iff.mp H
                    obtain ⟨⟨t212, t213, t214, t215, t216⟩, A560, H⟩ := H
                    replace H : (some ((([(⟨t212, t213, t214, t215, t216⟩ : S38)] : List (S38))), a2)) = some (r1, r2) := H
                    have A56 := Aside0.mk A560
                    clear A560
                    obtain ⟨y217, hy217⟩ : ∃ y_ : List (S38), y_ = (([(⟨t212, t213, t214, t215, t216⟩ : S38)] : List (S38))) := ⟨_, rfl⟩
                    replace H : (some (y217, a2)) = some (r1, r2) := by first | (rw [hy217]; with_reducible exact H) | (have H2_ := (Option.bind_some _ _).symm.trans H; rw [hy217]; with_reducible exact H2_) | (have H2_ := (Option.bind_some _ _).symm.trans H; with_reducible exact H2_) | with_reducible exact H | (rw [hy217]; exact H) | exact H
                    have Ny217 := Aside0.mk hy217
                    clear hy217
                    simp only [Option.some.injEq, Prod.mk.injEq] at H
                    obtain ⟨rfl, rfl⟩ := H
                    have hcz57_0 : wc.cell? ⟨gb192, 0, none⟩ = some (.int .u32 ((rd_T119 l0 0).f0)) := (blk_cell BK192.out 0).trans rfl
                    have hcz57_1 : wc.cell? ⟨gb192, 1, none⟩ = some (.int .u32 ((rd_T119 l0 0).f1)) := (blk_cell BK192.out 1).trans rfl
                    have hcz57_2 : wc.cell? ⟨gb192, 2, none⟩ = some (.int .i64 ((rd_T119 l0 0).f2)) := (blk_cell BK192.out 2).trans rfl
                    have hfz57_0 := blk_frozen BK192.out 0
                    have hfz57_1 := blk_frozen BK192.out 1
                    have hfz57_2 := blk_frozen BK192.out 2
                    go_wp2_with (first | ((with_reducible refine gate_callee (f := 74) rfl ?_); refine goesL_ (some 127) rfl rfl Try.func74 (by kernel_rfl) rfl #[.int .u16 53, .int .u32 ((rd_T119 l0 0).f0), .int .i64 ((rd_T119 l0 0).f2), .int .i64 a1] rfl (by (try simp only [List.map_toArray, List.map_cons, List.map_nil]); first | done | rfl | (simp only [List.length_drop, List.length_take]; rfl)) ?_; (with_reducible refine (tamisref24_ask.calls 53 ((rd_T119 l0 0).f0) ((rd_T119 l0 0).f2) a1 t212 t213 t214 t215 t216 _ A56.out).mono ?_); rintro e w58 ⟨rfl, hb⟩; refine ⟨_, rfl, ?_⟩; have n0_ := Aside0.mk (blk_below (g := gb192) (o := .cells #[.int .u32 ((rd_T119 l0 0).f0), .int .u32 ((rd_T119 l0 0).f1), .int .i64 ((rd_T119 l0 0).f2)] 119 (0, 0)) (by (with_reducible repeat (first | refine blk_drewN ?_ _ | refine blk_drew ?_ | refine blk_alloc ?_ _)); exact BK192.out) hb); have n1_ := Aside0.mk (below_step (by repeat (first | (with_reducible first | exact HB.out | apply below_alloc | apply pw_below_drewN | apply below_drew1 | refine below_set ?_ GE192.out) | exact HB.out)) hb); clear BK192; clear HB; have BK192 := n0_; have HB := n1_; clear n0_ n1_; (try clear hb); (try clear hb2); (try clear hk); (try clear hi)) | ((with_reducible refine gate_dst (N := 128) rfl ?_); refine Kd.R_lit k38 _ 38 ?hg (N := 128) ?hd (xs := ([(⟨t212, t213, t214, t215, t216⟩ : S38)] : List (S38))) (inner := [.int .i64 t212, .int .u16 t213, .int .u32 t214, .int .i64 t215, .int .i64 t216]) (ok := fun _ => True) (okp := fun _ => True) ?hr ?hp (fun _ hk => hk) trivial (Below.refl _ _) (Nat.le_refl _) (by simp) ?_; (case hd => rfl); (case hg => rfl); (case hr => first | (go_simp; done) | (go_simp; rfl)); (case hp => exact (Reps.c5 (show Kd.M k38 _ _ _ (⟨t212, t213, t214, t215, t216⟩ : S38) [.int .i64 t212, .int .u16 t213, .int .u32 t214, .int .i64 t215, .int .i64 t216] from (k38_mkM _ _ _ (⟨t212, t213, t214, t215, t216⟩ : S38) )) (Reps.none _ _))); intro v218 w59 ho60 hb hg_ hnew_; clear hg_ hnew_; (first | rw [← Ny217.out] at ho60 | (simp only [Int.reduceToNat] at ho60; rw [← Ny217.out] at ho60)); have n0_ := Aside0.mk (Kd.R_lower ho60 (below_size (by repeat (first | (with_reducible first | exact HB.out | apply below_alloc | apply pw_below_drewN | apply below_drew1 | refine below_set ?_ GE192.out) | exact HB.out)))); have n1_ := Aside0.mk (blk_below (g := gb192) (o := .cells #[.int .u32 ((rd_T119 l0 0).f0), .int .u32 ((rd_T119 l0 0).f1), .int .i64 ((rd_T119 l0 0).f2)] 119 (0, 0)) (by (with_reducible repeat (first | refine blk_drewN ?_ _ | refine blk_drew ?_ | refine blk_alloc ?_ _)); exact BK192.out) hb); have n2_ := Aside0.mk (below_step (by repeat (first | (with_reducible first | exact HB.out | apply below_alloc | apply pw_below_drewN | apply below_drew1 | refine below_set ?_ GE192.out) | exact HB.out)) hb); clear BK192; clear HB; have HO219 := n0_; have BK192 := n1_; have HB := n2_; clear n0_ n1_ n2_; clear hb ho60))
                    go_ret2
                    exact ⟨_, by first | rfl | (simp [errW_none, errW_some] <;> rfl) | (simp [*, errW_none, errW_some] <;> rfl), by (with_reducible repeat (first | apply Kd.R_alloc | apply Kd.R_drewN | apply Kd.R_drew)); exact HO219.out, by repeat (first | (with_reducible first | exact HB.out | apply below_alloc | apply pw_below_drewN | apply below_drew1 | refine below_set ?_ GE192.out) | exact HB.out)⟩
                  · rw [if_neg c55] at H
                    have c55b0 : (((rd_T119 l0 0).f1) == 4294967295) = false := beq_eq_false_iff_ne.mpr c55
                    have c55b1 : (((rd_T119 l0 0).f1) != 4294967295) = true := bne_iff_ne.mpr c55
                    replace H := Option.bind_eq_some_iff.mp H
                    obtain ⟨⟨t220, t221, t222, t223, t224⟩, A610, H⟩ := H
                    replace H : ((tamisref24_ask.f 37 ((rd_T119 l0 0).f1) a1 ((rd_T119 l0 0).f2)).bind fun bt225 => (some ((([(⟨t220, t221, t222, t223, t224⟩ : S38), (⟨4, 0, 0, a2, 0⟩ : S38), (⟨bt225.1, bt225.2.1, bt225.2.2.1, bt225.2.2.2.1, bt225.2.2.2.2⟩ : S38)] : List (S38))), wrap64 (a2 + 1)))) = some (r1, r2) := H
                    have A61 := Aside0.mk A610
                    clear A610
                    replace H := Option.bind_eq_some_iff.mp H
                    obtain ⟨⟨t225, t226, t227, t228, t229⟩, A620, H⟩ := H
                    replace H : (some ((([(⟨t220, t221, t222, t223, t224⟩ : S38), (⟨4, 0, 0, a2, 0⟩ : S38), (⟨t225, t226, t227, t228, t229⟩ : S38)] : List (S38))), wrap64 (a2 + 1))) = some (r1, r2) := H
                    have A62 := Aside0.mk A620
                    clear A620
                    obtain ⟨y230, hy230⟩ : ∃ y_ : List (S38), y_ = (([(⟨t220, t221, t222, t223, t224⟩ : S38), (⟨4, 0, 0, a2, 0⟩ : S38), (⟨t225, t226, t227, t228, t229⟩ : S38)] : List (S38))) := ⟨_, rfl⟩
                    replace H : (some (y230, wrap64 (a2 + 1))) = some (r1, r2) := by first | (rw [hy230]; with_reducible exact H) | (have H2_ := (Option.bind_some _ _).symm.trans H; rw [hy230]; with_reducible exact H2_) | (have H2_ := (Option.bind_some _ _).symm.trans H; with_reducible exact H2_) | with_reducible exact H | (rw [hy230]; exact H) | exact H
                    have Ny230 := Aside0.mk hy230
                    clear hy230
                    simp only [Option.some.injEq, Prod.mk.injEq] at H
                    obtain ⟨rfl, rfl⟩ := H
                    have hcz63_0 : wc.cell? ⟨gb192, 0, none⟩ = some (.int .u32 ((rd_T119 l0 0).f0)) := (blk_cell BK192.out 0).trans rfl
                    have hcz63_1 : wc.cell? ⟨gb192, 1, none⟩ = some (.int .u32 ((rd_T119 l0 0).f1)) := (blk_cell BK192.out 1).trans rfl
                    have hcz63_2 : wc.cell? ⟨gb192, 2, none⟩ = some (.int .i64 ((rd_T119 l0 0).f2)) := (blk_cell BK192.out 2).trans rfl
                    have hfz63_0 := blk_frozen BK192.out 0
                    have hfz63_1 := blk_frozen BK192.out 1
                    have hfz63_2 := blk_frozen BK192.out 2
                    try go_wp2
                    have n0_ := Aside0.mk (blk_drew BK192.out)
                    have n1_ := Aside0.mk (below_drew1 HB.out)
                    clear BK192
                    clear HB
                    have BK192 := n0_
                    have HB := n1_
                    clear n0_ n1_
                    refine start_ (n := 18) (S := fun w' => w'.cell? ⟨gb192, 0, none⟩ = some (.int .u32 ((rd_T119 l0 0).f0)) ∧ w'.cell? ⟨gb192, 1, none⟩ = some (.int .u32 ((rd_T119 l0 0).f1)) ∧ w'.cell? ⟨gb192, 2, none⟩ = some (.int .i64 ((rd_T119 l0 0).f2))) (ds := []) #[false, false, false, false, false, false, false, false, false, false, false, false, false, false, false, false, false, false] (by kernel_rfl) rfl rfl ⟨(blk_cell BK192.out 0).trans rfl, (blk_cell BK192.out 1).trans rfl, (blk_cell BK192.out 2).trans rfl⟩ (fun hHeld => ?_); refine with_tabW tamisref24_Tree.tab21 tamisref24_Tree.bits21 (fun HT_ HW_ => ?_)
                    generalize wc.drew = w64 at BK192 HB hHeld ⊢
                    refine pure_ (i := 0) (N := some 130) (v := ?_) (a' := ?_) #[true, false, false, false, false, false, false, false, false, false, false, false, false, false, false, false, false, false] rfl rfl (any_of HT_.out (by kernel_rfl)) (fun _ _ _ h => h) (Or.inl ⟨by rfl, ?_⟩) ?_ ?_
                    rotate_left
                    · intro w'
                      go_simp
                      with_reducible rfl
                    rotate_left
                    · simp only [Act.put, List.setIfInBounds_toArray, List.set_cons_zero, List.set_cons_succ, i64_w, i32_w]
                      rfl
                    refine pure_ (i := 2) (N := some 132) (v := ?_) (a' := ?_) #[true, false, true, false, false, false, false, false, false, false, false, false, false, false, false, false, false, false] rfl rfl (any_of HT_.out (by kernel_rfl)) (fun _ _ _ h => h) (Or.inl ⟨by rfl, ?_⟩) ?_ ?_
                    rotate_left
                    · intro w'
                      go_simp
                      with_reducible rfl
                    rotate_left
                    · simp only [Act.put, List.setIfInBounds_toArray, List.set_cons_zero, List.set_cons_succ, i64_w, i32_w]
                      rfl
                    refine pure_ (i := 3) (N := some 133) (v := ?_) (a' := ?_) #[true, false, true, true, false, false, false, false, false, false, false, false, false, false, false, false, false, false] rfl rfl (any_of HT_.out (by kernel_rfl)) (fun _ _ _ h => h) (Or.inl ⟨by rfl, ?_⟩) ?_ ?_
                    rotate_left
                    · intro w'
                      go_simp
                      with_reducible rfl
                    rotate_left
                    · simp only [Act.put, List.setIfInBounds_toArray, List.set_cons_zero, List.set_cons_succ, i64_w, i32_w]
                      rfl
                    refine pure_ (i := 5) (N := some 135) (v := ?_) (a' := ?_) #[true, false, true, true, false, true, false, false, false, false, false, false, false, false, false, false, false, false] rfl rfl (any_of HT_.out (by kernel_rfl)) (fun _ _ _ h => h) (Or.inl ⟨by rfl, ?_⟩) ?_ ?_
                    rotate_left
                    · intro w'
                      go_simp
                      with_reducible rfl
                    rotate_left
                    · simp only [Act.put, List.setIfInBounds_toArray, List.set_cons_zero, List.set_cons_succ, i64_w, i32_w]
                      rfl
                    refine pure_ (i := 6) (N := some 136) (v := ?_) (a' := ?_) #[true, false, true, true, false, true, true, false, false, false, false, false, false, false, false, false, false, false] rfl rfl (any_of HT_.out (by kernel_rfl)) (fun _ _ _ h => h) (Or.inl ⟨by rfl, ?_⟩) ?_ ?_
                    rotate_left
                    · intro w'
                      go_simp
                      with_reducible rfl
                    rotate_left
                    · simp only [Act.put, List.setIfInBounds_toArray, List.set_cons_zero, List.set_cons_succ, i64_w, i32_w]
                      rfl
                    refine pure_ (i := 7) (N := some 137) (v := ?_) (a' := ?_) #[true, false, true, true, false, true, true, true, false, false, false, false, false, false, false, false, false, false] rfl rfl (any_of HT_.out (by kernel_rfl)) (fun _ _ _ h => h) (Or.inl ⟨by rfl, ?_⟩) ?_ ?_
                    rotate_left
                    · intro w'
                      go_simp
                      with_reducible rfl
                    rotate_left
                    · simp only [Act.put, List.setIfInBounds_toArray, List.set_cons_zero, List.set_cons_succ, i64_w, i32_w]
                      rfl
                    refine pure_ (i := 9) (N := some 139) (v := ?_) (a' := ?_) #[true, false, true, true, false, true, true, true, false, true, false, false, false, false, false, false, false, false] rfl rfl (any_of HT_.out (by kernel_rfl)) (fun _ _ _ h => h) (Or.inl ⟨by rfl, ?_⟩) ?_ ?_
                    rotate_left
                    · intro w'
                      go_simp
                      with_reducible rfl
                    rotate_left
                    · simp only [Act.put, List.setIfInBounds_toArray, List.set_cons_zero, List.set_cons_succ, i64_w, i32_w]
                      rfl
                    refine pure_ (i := 10) (N := some 140) (v := ?_) (a' := ?_) #[true, false, true, true, false, true, true, true, false, true, true, false, false, false, false, false, false, false] rfl rfl (any_of HT_.out (by kernel_rfl)) (fun _ _ _ h => h) (Or.inl ⟨by rfl, ?_⟩) ?_ ?_
                    rotate_left
                    · intro w'
                      go_simp
                      with_reducible rfl
                    rotate_left
                    · simp only [Act.put, List.setIfInBounds_toArray, List.set_cons_zero, List.set_cons_succ, i64_w, i32_w]
                      rfl
                    refine pure_ (i := 14) (N := some 144) (v := ?_) (a' := ?_) #[true, false, true, true, false, true, true, true, false, true, true, false, false, false, true, false, false, false] rfl rfl (any_of HT_.out (by kernel_rfl)) (fun _ _ _ h => h) (Or.inl ⟨by rfl, ?_⟩) ?_ ?_
                    rotate_left
                    · intro w'
                      go_simp
                      with_reducible rfl
                    rotate_left
                    · simp only [Act.put, List.setIfInBounds_toArray, List.set_cons_zero, List.set_cons_succ, i64_w, i32_w]
                      rfl
                    refine pure_ (i := 15) (N := some 145) (v := ?_) (a' := ?_) #[true, false, true, true, false, true, true, true, false, true, true, false, false, false, true, true, false, false] rfl rfl (any_of HT_.out (by kernel_rfl)) (fun _ _ _ h => h) (Or.inl ⟨by rfl, ?_⟩) ?_ ?_
                    rotate_left
                    · intro w'
                      go_simp
                      with_reducible rfl
                    rotate_left
                    · simp only [Act.put, List.setIfInBounds_toArray, List.set_cons_zero, List.set_cons_succ, i64_w, i32_w]
                      rfl
                    refine take_ (i := 1) (N := some 131) (v := ?_) (a' := ?_) #[true, true, true, true, false, true, true, true, false, true, true, false, false, false, true, true, false, false] rfl rfl (take_ofW HT_.out HW_.out (by kernel_rfl)) (fun _ _ _ h => h) (Or.inl ⟨by rfl, ?_⟩) hHeld ?_ ?_
                    rotate_left
                    · rintro w' ⟨s0, s1, s2⟩
                      go_simp
                      with_reducible rfl
                    rotate_left
                    · simp only [Act.put, List.setIfInBounds_toArray, List.set_cons_zero, List.set_cons_succ, i64_w, i32_w]
                      rfl
                    refine take_ (i := 8) (N := some 138) (v := ?_) (a' := ?_) #[true, true, true, true, false, true, true, true, true, true, true, false, false, false, true, true, false, false] rfl rfl (take_ofW HT_.out HW_.out (by kernel_rfl)) (fun _ _ _ h => h) (Or.inl ⟨by rfl, ?_⟩) hHeld ?_ ?_
                    rotate_left
                    · rintro w' ⟨s0, s1, s2⟩
                      go_simp
                      with_reducible rfl
                    rotate_left
                    · simp only [Act.put, List.setIfInBounds_toArray, List.set_cons_zero, List.set_cons_succ, i64_w, i32_w]
                      rfl
                    refine take_ (i := 11) (N := some 141) (v := ?_) (a' := ?_) #[true, true, true, true, false, true, true, true, true, true, true, true, false, false, true, true, false, false] rfl rfl (take_ofW HT_.out HW_.out (by kernel_rfl)) (fun _ _ _ h => h) (Or.inl ⟨by rfl, ?_⟩) hHeld ?_ ?_
                    rotate_left
                    · rintro w' ⟨s0, s1, s2⟩
                      go_simp
                      with_reducible rfl
                    rotate_left
                    · simp only [Act.put, List.setIfInBounds_toArray, List.set_cons_zero, List.set_cons_succ, i64_w, i32_w]
                      rfl
                    refine one_ (i := 4) (N := some 134) #[true, true, true, true, true, true, true, true, true, true, true, true, false, false, true, true, false, false] rfl rfl (one_of HT_.out (by kernel_rfl)) (by decide) (fun K hK => ?_)
                    refine goes_ Try.func74 (by kernel_rfl) rfl #[.int .u16 53, .int .u32 ((rd_T119 l0 0).f0), .int .i64 a2, .int .i64 a1] (by rfl) rfl rfl (by (try simp only [List.map_toArray, List.map_cons, List.map_nil]); first | done | rfl | (simp only [List.length_drop, List.length_take]; rfl)) ?_
                    with_reducible refine (tamisref24_ask.calls 53 ((rd_T119 l0 0).f0) a2 a1 t220 t221 t222 t223 t224 _ A61.out).mono ?_
                    rintro e w65 ⟨rfl, hb⟩
                    refine ⟨_, rfl, ?_⟩
                    have n0_ := Aside0.mk (blk_below (g := gb192) (o := .cells #[.int .u32 ((rd_T119 l0 0).f0), .int .u32 ((rd_T119 l0 0).f1), .int .i64 ((rd_T119 l0 0).f2)] 119 (0, 0)) (by (with_reducible repeat (first | refine blk_drewN ?_ _ | refine blk_drew ?_ | refine blk_alloc ?_ _)); exact BK192.out) hb)
                    have n1_ := Aside0.mk (below_step (by repeat (first | (with_reducible first | exact HB.out | apply below_alloc | apply pw_below_drewN | apply below_drew1 | refine below_set ?_ GE192.out) | exact HB.out)) hb)
                    clear BK192
                    clear HB
                    have BK192 := n0_
                    have HB := n1_
                    clear n0_ n1_
                    (try clear hb)
                    (try clear hb2)
                    (try clear hk)
                    (try clear hi)
                    refine hK.out _ _ ⟨(blk_cell BK192.out 0).trans rfl, (blk_cell BK192.out 1).trans rfl, (blk_cell BK192.out 2).trans rfl⟩ (fun hHeld => ?_)
                    clear hK K
                    refine norm_ (a' := ?_) ?_ ?_
                    rotate_left
                    · show Act.put _ (some 134) _ = _
                      simp only [Act.put, List.setIfInBounds_toArray, List.set_cons_zero, List.set_cons_succ, i64_w, i32_w]
                      rfl
                    refine one_ (i := 12) (N := some 142) #[true, true, true, true, true, true, true, true, true, true, true, true, true, false, true, true, false, false] rfl rfl (one_of HT_.out (by kernel_rfl)) (by decide) (fun K hK => ?_)
                    refine goes_ Try.func74 (by kernel_rfl) rfl #[.int .u16 37, .int .u32 ((rd_T119 l0 0).f1), .int .i64 a1, .int .i64 ((rd_T119 l0 0).f2)] (by rfl) rfl rfl (by (try simp only [List.map_toArray, List.map_cons, List.map_nil]); first | done | rfl | (simp only [List.length_drop, List.length_take]; rfl)) ?_
                    with_reducible refine (tamisref24_ask.calls 37 ((rd_T119 l0 0).f1) a1 ((rd_T119 l0 0).f2) t225 t226 t227 t228 t229 _ A62.out).mono ?_
                    rintro e w66 ⟨rfl, hb⟩
                    refine ⟨_, rfl, ?_⟩
                    have n0_ := Aside0.mk (blk_below (g := gb192) (o := .cells #[.int .u32 ((rd_T119 l0 0).f0), .int .u32 ((rd_T119 l0 0).f1), .int .i64 ((rd_T119 l0 0).f2)] 119 (0, 0)) (by (with_reducible repeat (first | refine blk_drewN ?_ _ | refine blk_drew ?_ | refine blk_alloc ?_ _)); exact BK192.out) hb)
                    have n1_ := Aside0.mk (below_step (by repeat (first | (with_reducible first | exact HB.out | apply below_alloc | apply pw_below_drewN | apply below_drew1 | refine below_set ?_ GE192.out) | exact HB.out)) hb)
                    clear BK192
                    clear HB
                    have BK192 := n0_
                    have HB := n1_
                    clear n0_ n1_
                    (try clear hb)
                    (try clear hb2)
                    (try clear hk)
                    (try clear hi)
                    refine hK.out _ _ ⟨(blk_cell BK192.out 0).trans rfl, (blk_cell BK192.out 1).trans rfl, (blk_cell BK192.out 2).trans rfl⟩ (fun hHeld => ?_)
                    clear hK K
                    refine norm_ (a' := ?_) ?_ ?_
                    rotate_left
                    · show Act.put _ (some 142) _ = _
                      simp only [Act.put, List.setIfInBounds_toArray, List.set_cons_zero, List.set_cons_succ, i64_w, i32_w]
                      rfl
                    refine one_ (i := 13) (N := some 143) #[true, true, true, true, true, true, true, true, true, true, true, true, true, true, true, true, false, false] rfl rfl (one_of HT_.out (by kernel_rfl)) (by decide) (fun K hK => ?_)
                    refine Kd.R_lit_step k38 _ 38 ?hg (N := 143) ?hd (xs := ([(⟨t220, t221, t222, t223, t224⟩ : S38), (⟨4, 0, 0, a2, 0⟩ : S38), (⟨t225, t226, t227, t228, t229⟩ : S38)] : List (S38))) (inner := [.int .i64 t220, .int .u16 t221, .int .u32 t222, .int .i64 t223, .int .i64 t224, .int .i64 4, .int .u16 0, .int .u32 0, .int .i64 a2, .int .i64 0, .int .i64 t225, .int .u16 t226, .int .u32 t227, .int .i64 t228, .int .i64 t229]) (ok := fun _ => True) (okp := fun _ => True) ?hr ?hp (fun _ hk => hk) trivial (Below.refl _ _) (Nat.le_refl _) (by simp) ?_; (case hd => rfl); (case hg => rfl); (case hr => first | (go_simp; done) | (go_simp; rfl)); (case hp => exact (Reps.c5 (show Kd.M k38 _ _ _ (⟨t220, t221, t222, t223, t224⟩ : S38) [.int .i64 t220, .int .u16 t221, .int .u32 t222, .int .i64 t223, .int .i64 t224] from (k38_mkM _ _ _ (⟨t220, t221, t222, t223, t224⟩ : S38) )) (Reps.c5 (show Kd.M k38 _ _ _ (⟨4, 0, 0, a2, 0⟩ : S38) [.int .i64 4, .int .u16 0, .int .u32 0, .int .i64 a2, .int .i64 0] from (k38_mkM _ _ _ (⟨4, 0, 0, a2, 0⟩ : S38) )) (Reps.c5 (show Kd.M k38 _ _ _ (⟨t225, t226, t227, t228, t229⟩ : S38) [.int .i64 t225, .int .u16 t226, .int .u32 t227, .int .i64 t228, .int .i64 t229] from (k38_mkM _ _ _ (⟨t225, t226, t227, t228, t229⟩ : S38) )) (Reps.none _ _)))))
                    intro v231 w67 ho68 hb hg_ hnew_
                    clear hg_ hnew_
                    (first | rw [← Ny230.out] at ho68 | (simp only [Int.reduceToNat] at ho68; rw [← Ny230.out] at ho68))
                    have n0_ := Aside0.mk (Kd.R_lower ho68 (below_size (by repeat (first | (with_reducible first | exact HB.out | apply below_alloc | apply pw_below_drewN | apply below_drew1 | refine below_set ?_ GE192.out) | exact HB.out))))
                    have n1_ := Aside0.mk (blk_below (g := gb192) (o := .cells #[.int .u32 ((rd_T119 l0 0).f0), .int .u32 ((rd_T119 l0 0).f1), .int .i64 ((rd_T119 l0 0).f2)] 119 (0, 0)) (by (with_reducible repeat (first | refine blk_drewN ?_ _ | refine blk_drew ?_ | refine blk_alloc ?_ _)); exact BK192.out) hb)
                    have n2_ := Aside0.mk (below_step (by repeat (first | (with_reducible first | exact HB.out | apply below_alloc | apply pw_below_drewN | apply below_drew1 | refine below_set ?_ GE192.out) | exact HB.out)) hb)
                    clear BK192
                    clear HB
                    have HO232 := n0_
                    have BK192 := n1_
                    have HB := n2_
                    clear n0_ n1_ n2_
                    clear hb ho68
                    refine hK.out _ _ ⟨(blk_cell BK192.out 0).trans rfl, (blk_cell BK192.out 1).trans rfl, (blk_cell BK192.out 2).trans rfl⟩ (fun hHeld => ?_)
                    clear hK K
                    refine norm_ (a' := ?_) ?_ ?_
                    rotate_left
                    · show Act.put _ (some 143) _ = _
                      simp only [Act.put, List.setIfInBounds_toArray, List.set_cons_zero, List.set_cons_succ, i64_w, i32_w]
                      rfl
                    refine pure_ (i := 16) (N := some 6) (v := ?_) (a' := ?_) #[true, true, true, true, true, true, true, true, true, true, true, true, true, true, true, true, true, false] rfl rfl (any_of HT_.out (by kernel_rfl)) (fun _ _ _ h => h) (Or.inl ⟨by rfl, ?_⟩) ?_ ?_
                    rotate_left
                    · intro w'
                      go_simp
                      with_reducible rfl
                    rotate_left
                    · simp only [Act.put, List.setIfInBounds_toArray, List.set_cons_zero, List.set_cons_succ, i64_w, i32_w]
                      rfl
                    refine pure_ (i := 17) (N := some 7) (v := ?_) (a' := ?_) #[true, true, true, true, true, true, true, true, true, true, true, true, true, true, true, true, true, true] rfl rfl (any_of HT_.out (by kernel_rfl)) (fun _ _ _ h => h) (Or.inl ⟨by rfl, ?_⟩) ?_ ?_
                    rotate_left
                    · intro w'
                      go_simp
                      with_reducible rfl
                    rotate_left
                    · simp only [Act.put, List.setIfInBounds_toArray, List.set_cons_zero, List.set_cons_succ, i64_w, i32_w]
                      rfl
                    refine done_ (done_of HT_.out (by kernel_rfl)) ?_
                    try go_wp2
                    go_ret2
                    exact ⟨_, by first | rfl | (simp [errW_none, errW_some] <;> rfl) | (simp [*, errW_none, errW_some] <;> rfl), by (with_reducible repeat (first | apply Kd.R_alloc | apply Kd.R_drewN | apply Kd.R_drew)); exact HO232.out, by repeat (first | (with_reducible first | exact HB.out | apply below_alloc | apply pw_below_drewN | apply below_drew1 | refine below_set ?_ GE192.out) | exact HB.out)⟩
      · rw [if_neg c32] at H
        exact absurd H (by simp)

/-! ### tamislaw23_Own: function 33 -/
def tamislaw23_Own.l0 : Nat → List (S38) → List (S40) → Int → Int → Option ((List (S38)))
  | 0, _, _, _, _ => none
  | k + 1, x3, x6, x7, x8 => if x8 < x7 then (if 0 ≤ x8 then (if x8 < (x6.length : Int) then (if x3.length < 4398046511104 then (tamislaw23_Own.l0 k (x3 ++ [(⟨(rd_T40 x6 x8).f0, (rd_T40 x6 x8).f1, (rd_T40 x6 x8).f2, (rd_T40 x6 x8).f3, (rd_T40 x6 x8).f4⟩ : S38)]) x6 x7 (wrap64 (x8 + 1))) else (none)) else (none)) else (none)) else (some x3)
def tamislaw23_Own.f (k : Nat) (l0 : List (S40)) : Option ((List (S38))) := tamislaw23_Own.l0 k ([] : List (S38)) l0 (l0.length : Int) 0
theorem tamislaw23_Own.mono_l : ∀ k, (∀ y0 y1 y2 y3, LeO (tamislaw23_Own.l0 k y0 y1 y2 y3) (tamislaw23_Own.l0 (k + 1) y0 y1 y2 y3))
  | 0 => fun _ _ _ _ r h => by simp [tamislaw23_Own.l0] at h
  | k + 1 => by
    have ih0 := tamislaw23_Own.mono_l k
    · intro y0 y1 y2 y3
      unfold tamislaw23_Own.l0
      repeat' first
      | (with_reducible exact ih0 _ _ _ _)
      | (with_reducible exact LeO.refl _)
      | (with_reducible exact LeO.none _)
      | (with_reducible refine LeO.ite ?_ ?_)
      | (with_reducible refine LeO.bind ?_ (fun _ => ?_))
      | exact ih0 _ _ _ _
      | exact LeO.none _
      | refine LeO.ite ?_ ?_
      | refine LeO.bind ?_ (fun _ => ?_)
theorem tamislaw23_Own.mono : ∀ a0 k, LeO (tamislaw23_Own.f k a0) (tamislaw23_Own.f (k + 1) a0) := by
  intro a0 k
  have ih0 := tamislaw23_Own.mono_l k
  unfold tamislaw23_Own.f
  repeat' first
      | (with_reducible exact ih0 _ _ _ _)
      | (with_reducible exact LeO.refl _)
      | (with_reducible exact LeO.none _)
      | (with_reducible refine LeO.ite ?_ ?_)
      | (with_reducible refine LeO.bind ?_ (fun _ => ?_))
      | exact ih0 _ _ _ _
      | exact LeO.none _
      | refine LeO.ite ?_ ?_
      | refine LeO.bind ?_ (fun _ => ?_)
set_option maxHeartbeats 8000000 in
set_option maxRecDepth 100000 in
theorem tamislaw23_Own.calls (k : Nat) (A0 : Option Addr) (c0 : Nat) (l0 : List (S40)) (r : List (S38)) (w : World) (hr0 : Kd.C k40 w A0 l0.length l0) (hc0 : l0.length ≤ c0) (h : tamislaw23_Own.f k l0 = some r) :
    Calls Try.prog 33 #[.slice A0 l0.length c0] w fun e w' => ∃ v0_ : Value, e = .returned (v0_) ∧ Kd.R k38 38 w' w.heap.size (fun _ => True) v0_ r ∧ Below w.heap.size w w' := by
  have hu40 := Try.underlying40
  have hu38 := Try.underlying38
  have HR0 := Aside0.mk hr0
  have HC0 := Aside0.mk hc0
  clear hr0 hc0
  have HB := Aside0.mk (Below.refl w.heap.size w)
  have H : (tamislaw23_Own.l0 k ([] : List (S38)) l0 (l0.length : Int) 0) = some r := h
  clear h
  have H' := Aside0.mk H
  clear H
  go_enter Try.func33, Try.ntmps33
  go_wp2
  go_loopg [3, 8] k (fun kq v3 v8 w' => ∃ (x3_1 : List (S38)) (x8_1 : Int), v8 = .int .i64 x8_1 ∧ Aside0 (tamislaw23_Own.l0 kq x3_1 l0 (l0.length : Int) x8_1 = some r) ∧ Aside0 (kq ≤ k) ∧ Aside0 (Kd.R k38 38 w' w.heap.size (fun _ => True) v3 x3_1) ∧ Aside0 (Below w.heap.size w w'))
  case atStart => exact ⟨(([] : List (S38))), (0), (by first | rfl | (simp; done) | (simp [*]; done)), H', ⟨Nat.le_refl _⟩, ⟨by first | exact Kd.R_nil _ _ _ _ _ | exact Kd.N_nil _ _ _ _ _ | exact Kd.V_nil _ _ _ _ _ | exact Kd.Q_nil _ _ _ _ _ | exact Kd.S_nil _ _ _ _ _⟩, ⟨by repeat (first | (with_reducible first | exact HB.out | apply below_alloc | apply pw_below_drewN | apply below_drew1) | exact HB.out)⟩⟩
  case round =>
    clear H'
    obtain ⟨x3_1, x8_1, rfl, HA, HK1, HO_3, HB⟩ := hrel
    cases gk with
    | zero => exact absurd HA.out (by simp [tamislaw23_Own.l0])
    | succ k1 =>
      have H := HA.out
      clear HA
      simp only [tamislaw23_Own.l0] at H
      by_cases c2 : x8_1 < (l0.length : Int)
      · rw [if_pos c2] at H
        have c2b0 : decide (x8_1 < (l0.length : Int)) = true := decide_eq_true c2
        clear c2
        by_cases c3 : 0 ≤ x8_1
        · rw [if_pos c3] at H
          have c3b0 : decide (0 ≤ x8_1) = true := decide_eq_true c3
          clear c3
          by_cases c4 : x8_1 < (l0.length : Int)
          · rw [if_pos c4] at H
            have c4b0 : decide (x8_1 < (l0.length : Int)) = true := decide_eq_true c4
            clear c4
            by_cases c5 : x3_1.length < 4398046511104
            · rw [if_pos c5] at H
              have LMc5 := Aside0.mk c5
              clear c5
              obtain ⟨y235, hy235⟩ : ∃ y_ : List (S38), y_ = (x3_1 ++ [(⟨(rd_T40 l0 x8_1).f0, (rd_T40 l0 x8_1).f1, (rd_T40 l0 x8_1).f2, (rd_T40 l0 x8_1).f3, (rd_T40 l0 x8_1).f4⟩ : S38)]) := ⟨_, rfl⟩
              replace H : (tamislaw23_Own.l0 k1 y235 l0 (l0.length : Int) (wrap64 (x8_1 + 1))) = some r := by first | (rw [hy235]; with_reducible exact H) | (have H2_ := (Option.bind_some _ _).symm.trans H; rw [hy235]; with_reducible exact H2_) | (have H2_ := (Option.bind_some _ _).symm.trans H; with_reducible exact H2_) | with_reducible exact H | (rw [hy235]; exact H) | exact H
              have Ny235 := Aside0.mk hy235
              clear hy235
              have H' := Aside0.mk H
              clear H
              have p233 : 0 ≤ (x8_1 : Int) := of_decide_eq_true (by first | (with_reducible assumption) | assumption)
              have q233 : x8_1 < (l0.length : Int) := of_decide_eq_true (by first | (with_reducible assumption) | assumption)
              obtain ⟨ad233, e233, hx233_0, hx233_1, hx233_2, hx233_3, hx233_4⟩ := at_T40 HR0.out x8_1 p233 q233
              cases e233
              replace hx233_0 := (HB.out.cell (World.block_lt_of_cell? w _ hx233_0)).trans hx233_0
              replace hx233_1 := (HB.out.cell (World.block_lt_of_cell? w _ hx233_1)).trans hx233_1
              replace hx233_2 := (HB.out.cell (World.block_lt_of_cell? w _ hx233_2)).trans hx233_2
              replace hx233_3 := (HB.out.cell (World.block_lt_of_cell? w _ hx233_3)).trans hx233_3
              replace hx233_4 := (HB.out.cell (World.block_lt_of_cell? w _ hx233_4)).trans hx233_4
              replace p233 := eq_true p233
              replace q233 := eq_true q233
              go_wp2_with (first | ((with_reducible refine gate_dst (N := 5) rfl ?_); refine box_event ?hg (N := 5) ?hd (cs := #[.int .i64 0, .int .u16 0, .int .u32 0, .int .i64 0, .int .i64 0]) (t := 40) ?hr ?_; (case hd => rfl); (case hg => rfl); (case hr => first | (go_simp; done) | (go_simp; rfl)); intro gb234 hg w6 hbox hb; have n0_ := Aside0.mk (Kd.R_below (by (with_reducible repeat (first | apply Kd.R_alloc | apply Kd.R_drewN | apply Kd.R_drew)); exact HO_3.out) hb); have n1_ := Aside0.mk (below_step (by repeat (first | (with_reducible first | exact HB.out | apply below_alloc | apply pw_below_drewN | apply below_drew1) | exact HB.out)) hb); have n2_ := Aside0.mk (hbox); have n3_ := Aside0.mk ((by rw [hg]; exact (below_size (by repeat (first | (with_reducible first | exact HB.out | apply below_alloc | apply pw_below_drewN | apply below_drew1) | exact HB.out))) : w.heap.size ≤ gb234)); have n4_ := Aside0.mk ((by rw [hg]; exact (below_size (by repeat (first | (with_reducible first | exact HB.out | apply below_alloc | apply pw_below_drewN | apply below_drew1) | exact HB.out))) : w.heap.size ≤ gb234)); clear HO_3; clear HB; have HO_3 := n0_; have HB := n1_; have BK234 := n2_; have GW234 := n3_; have GE234 := n4_; clear n0_ n1_ n2_ n3_ n4_; clear hb hbox hg; have hcz7_0 : w6.cell? ⟨gb234, 0, none⟩ = some (.int .i64 0) := (blk_cell BK234.out 0).trans rfl; have hcz7_1 : w6.cell? ⟨gb234, 1, none⟩ = some (.int .u16 0) := (blk_cell BK234.out 1).trans rfl; have hcz7_2 : w6.cell? ⟨gb234, 2, none⟩ = some (.int .u32 0) := (blk_cell BK234.out 2).trans rfl; have hcz7_3 : w6.cell? ⟨gb234, 3, none⟩ = some (.int .i64 0) := (blk_cell BK234.out 3).trans rfl; have hcz7_4 : w6.cell? ⟨gb234, 4, none⟩ = some (.int .i64 0) := (blk_cell BK234.out 4).trans rfl; have hfz7_0 := blk_frozen BK234.out 0; have hfz7_1 := blk_frozen BK234.out 1; have hfz7_2 := blk_frozen BK234.out 2; have hfz7_3 := blk_frozen BK234.out 3; have hfz7_4 := blk_frozen BK234.out 4) | ((with_reducible refine gate_builtin (b := .append) (xs := #[.tmp 12, .tmp 24]) rfl ?_); at_builtin; refine Kd.R_append k38 (w0 := w) w.heap.size rfl (.tmp 12) (.tmp 24) 31 38 (.agg #[(.int .i64 0), (.int .u16 0), (.int .u32 0), (.int .i64 0), (.int .i64 0)]) 32 rfl Try.underlying31 info38 rfl (by decide) (by omega) u3 x3_1 (⟨(rd_T40 l0 x8_1).f0, (rd_T40 l0 x8_1).f1, (rd_T40 l0 x8_1).f2, (rd_T40 l0 x8_1).f3, (rd_T40 l0 x8_1).f4⟩ : S38) [.int .i64 ((rd_T40 l0 x8_1).f0), .int .u16 ((rd_T40 l0 x8_1).f1), .int .u32 ((rd_T40 l0 x8_1).f2), .int .i64 ((rd_T40 l0 x8_1).f3), .int .i64 ((rd_T40 l0 x8_1).f4)] (fun _ => True) (fun _ => False) rfl (by first | (go_simp; done) | (go_simp; rfl)) ?aP (fun _ hk => hk.elim) ?aF ?aO ?aB ?aS ?aL ?_; (case aP => exact k38_mkM _ _ _ (⟨(rd_T40 l0 x8_1).f0, (rd_T40 l0 x8_1).f1, (rd_T40 l0 x8_1).f2, (rd_T40 l0 x8_1).f3, (rd_T40 l0 x8_1).f4⟩ : S38)); (case aB => exact (by repeat (first | (with_reducible first | exact HB.out | apply below_alloc | apply pw_below_drewN | apply below_drew1 | refine below_set ?_ GE234.out) | exact HB.out))); (case aF => exact (fun _ _ => trivial)); (case aO => exact (by (with_reducible repeat (first | apply Kd.R_alloc | apply Kd.R_drewN | apply Kd.R_drew)); exact Kd.R_mono (Kd.R_far (p := ⟨gb234, 4, none⟩) (Kd.R_far (p := ⟨gb234, 3, none⟩) (Kd.R_far (p := ⟨gb234, 2, none⟩) (Kd.R_far (p := ⟨gb234, 1, none⟩) (Kd.R_far (p := ⟨gb234, 0, none⟩) (Kd.R_types HO_3.out BK234.out (by decide)) (fun _ hk => hk.2) (.int .i64 ((rd_T40 l0 x8_1).f0))) (fun _ hk => hk.2) (.int .u16 ((rd_T40 l0 x8_1).f1))) (fun _ hk => hk.2) (.int .u32 ((rd_T40 l0 x8_1).f2))) (fun _ hk => hk.2) (.int .i64 ((rd_T40 l0 x8_1).f3))) (fun _ hk => hk.2) (.int .i64 ((rd_T40 l0 x8_1).f4))) (fun _ hk => trivial))); (case aS => exact (below_size (by repeat (first | (with_reducible first | exact HB.out | apply below_alloc | apply pw_below_drewN | apply below_drew1 | refine below_set ?_ GE234.out) | exact HB.out)))); (case aL => have := LMc5.out; omega); intro v236 w8 ho hb hg hat; rw [← Ny235.out] at ho; have n0_ := Aside0.mk (blk_grown (g := gb234) (o := .cells #[.int .i64 ((rd_T40 l0 x8_1).f0), .int .u16 ((rd_T40 l0 x8_1).f1), .int .u32 ((rd_T40 l0 x8_1).f2), .int .i64 ((rd_T40 l0 x8_1).f3), .int .i64 ((rd_T40 l0 x8_1).f4)] 40 (0, 0)) (by (with_reducible repeat (first | refine blk_drewN ?_ _ | refine blk_drew ?_ | refine blk_alloc ?_ _)); refine blk_put (cs := #[.int .i64 ((rd_T40 l0 x8_1).f0), .int .u16 ((rd_T40 l0 x8_1).f1), .int .u32 ((rd_T40 l0 x8_1).f2), .int .i64 ((rd_T40 l0 x8_1).f3), .int .i64 0]) ?_ 4 _ rfl; (with_reducible repeat (first | refine blk_drewN ?_ _ | refine blk_drew ?_ | refine blk_alloc ?_ _)); refine blk_put (cs := #[.int .i64 ((rd_T40 l0 x8_1).f0), .int .u16 ((rd_T40 l0 x8_1).f1), .int .u32 ((rd_T40 l0 x8_1).f2), .int .i64 0, .int .i64 0]) ?_ 3 _ rfl; (with_reducible repeat (first | refine blk_drewN ?_ _ | refine blk_drew ?_ | refine blk_alloc ?_ _)); refine blk_put (cs := #[.int .i64 ((rd_T40 l0 x8_1).f0), .int .u16 ((rd_T40 l0 x8_1).f1), .int .u32 0, .int .i64 0, .int .i64 0]) ?_ 2 _ rfl; (with_reducible repeat (first | refine blk_drewN ?_ _ | refine blk_drew ?_ | refine blk_alloc ?_ _)); refine blk_put (cs := #[.int .i64 ((rd_T40 l0 x8_1).f0), .int .u16 0, .int .u32 0, .int .i64 0, .int .i64 0]) ?_ 1 _ rfl; (with_reducible repeat (first | refine blk_drewN ?_ _ | refine blk_drew ?_ | refine blk_alloc ?_ _)); refine blk_put (cs := #[.int .i64 0, .int .u16 0, .int .u32 0, .int .i64 0, .int .i64 0]) ?_ 0 _ rfl; (with_reducible repeat (first | refine blk_drewN ?_ _ | refine blk_drew ?_ | refine blk_alloc ?_ _)); exact BK234.out) hg (Kd.R_ne HO_3.out BK234.out (by decide))); have n1_ := Aside0.mk (hb); have n2_ := Aside0.mk (ho); clear BK234; clear HB; clear HO_3; have BK234 := n0_; have HB := n1_; have HO237 := n2_; clear n0_ n1_ n2_; clear ho hb hg hat))
              go_roundg k1
              case measure => have := HK1.out; omega
              case rel => exact ⟨(y235), (wrap64 (x8_1 + 1)), (by first | rfl | (simp; done) | (simp [*]; done)), H', ⟨by have := HK1.out; omega⟩, ⟨by (with_reducible repeat (first | apply Kd.R_alloc | apply Kd.R_drewN | apply Kd.R_drew)); exact HO237.out⟩, ⟨by repeat (first | (with_reducible first | exact HB.out | apply below_alloc | apply pw_below_drewN | apply below_drew1 | refine below_set ?_ GE234.out) | exact HB.out)⟩⟩
            · rw [if_neg c5] at H
              exact absurd H (by simp)
          · rw [if_neg c4] at H
            exact absurd H (by simp)
        · rw [if_neg c3] at H
          exact absurd H (by simp)
      · rw [if_neg c2] at H
        have c2b0 : decide (x8_1 < (l0.length : Int)) = false := decide_eq_false c2
        clear c2
        obtain rfl := Option.some.inj H
        go_wp2
        go_ret
        exact ⟨_, by first | rfl | (simp [errW_none, errW_some] <;> rfl) | (simp [*, errW_none, errW_some] <;> rfl), by (with_reducible repeat (first | apply Kd.R_alloc | apply Kd.R_drewN | apply Kd.R_drew)); exact HO_3.out, by repeat (first | (with_reducible first | exact HB.out | apply below_alloc | apply pw_below_drewN | apply below_drew1) | exact HB.out)⟩

end Go.Proofs.Ytmjpibeiglicdaa.T
