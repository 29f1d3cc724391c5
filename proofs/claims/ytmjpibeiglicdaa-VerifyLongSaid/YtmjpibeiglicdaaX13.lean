/- Functions of the program as plain Lean functions, and their contracts; written by a program out of the translation. -/
import Derived.Test.YtmjpibeiglicdaaX0
import Derived.Test.YtmjpibeiglicdaaX4
namespace Go.Proofs.Ytmjpibeiglicdaa.X
open Go.RowKit Go.Proofs.YtmjpibeiglicdaaW.PrintWords Go.Proofs.YtmjpibeiglicdaaW.PrintLast Go.Proofs.YtmjpibeiglicdaaW.PrintMore
attribute [local go_sem] max2_int min2_int max_two min_two max_three min_three max_four min_four   -- for this text's walks alone
set_option linter.unusedVariables false
set_option linter.unusedSimpArgs false

/-! ### tamislaw06_VerifyLong: function 10 -/
mutual
def tamislaw06_VerifyLong.l0 : Nat → Int → Int → List (S56) → Option (Bool)
  | 0, _, _, _ => none
  | k + 1, x0, x1, x5 => if (x5.length : Int) < (wrap64 (x0 - 1)) then (if x5.length < 17592186044416 then (tamislaw06_VerifyLong.l0 k x0 x1 (x5 ++ [(⟨0, 0, 0, ((x5.length : Int)) % 4294967296⟩ : S56)])) else (none)) else ((tamislaw06_ret.f).bind fun bt340 => (if x5.length < 17592186044416 then ((some (x5 ++ [(⟨bt340.1, bt340.2.1, bt340.2.2.1, bt340.2.2.2⟩ : S56)] : List (S56))).bind fun y344 => ((verify_Check.f k y344).bind fun bt347 => ((tamislaw06_awake.f).bind fun t349 => (if t349 = true then (tamislaw06_VerifyLong.j1 k x0 x1 y344 bt347.2 (bt347.1 != 0)) else (tamislaw06_VerifyLong.j1 k x0 x1 y344 bt347.2 true))))) else (none)))
def tamislaw06_VerifyLong.j1 : Nat → Int → Int → List (S56) → Int → Bool → Option (Bool)
  | 0, _, _, _, _, _ => none
  | k + 1, x0, x1, x5, x7, x42 => if x42 = true then (some false) else (if x0 > 4096 then (if x7 = 5 then ((verify_Right.f k x5).bind fun t350 => (some (!t350))) else (some false)) else (if (IntKind.u64.wrap ((IntKind.u64.wrap (x1)) + 1)) ≥ (IntKind.u64.wrap (x0)) then (some (x7 == 7)) else (if x7 = 0 then ((verify_Right.f k x5).bind fun t351 => (some t351)) else (some false))))
end
def tamislaw06_VerifyLong.f (k : Nat) (a0 : Int) (a1 : Int) : Option (Bool) := tamislaw06_VerifyLong.l0 k (wrap64 (4090 + (wrap64 (Int.tmod (IntKind.u64.wrap (a0)) 12)))) a1 (([(⟨5, 0, 0, a1⟩ : S56)] : List (S56)))
theorem tamislaw06_VerifyLong.mono_l : ∀ k, (∀ y0 y1 y2, LeO (tamislaw06_VerifyLong.l0 k y0 y1 y2) (tamislaw06_VerifyLong.l0 (k + 1) y0 y1 y2)) ∧ (∀ y0 y1 y2 y3 y4, LeO (tamislaw06_VerifyLong.j1 k y0 y1 y2 y3 y4) (tamislaw06_VerifyLong.j1 (k + 1) y0 y1 y2 y3 y4))
  | 0 => ⟨fun _ _ _ r h => by simp [tamislaw06_VerifyLong.l0] at h, fun _ _ _ _ _ r h => by simp [tamislaw06_VerifyLong.j1] at h⟩
  | k + 1 => by
    obtain ⟨ih0, ih1⟩ := tamislaw06_VerifyLong.mono_l k
    refine ⟨?_, ?_⟩
    · intro y0 y1 y2
      unfold tamislaw06_VerifyLong.l0
      repeat' first
      | (with_reducible exact ih0 _ _ _)
      | (with_reducible exact ih1 _ _ _ _ _)
      | (with_reducible exact verify_Check.mono _ _)
      | (with_reducible exact verify_Right.mono _ _)
      | (with_reducible exact LeO.refl _)
      | (with_reducible exact LeO.none _)
      | (with_reducible refine LeO.ite ?_ ?_)
      | (with_reducible refine LeO.bind ?_ (fun _ => ?_))
      | exact ih0 _ _ _
      | exact ih1 _ _ _ _ _
      | exact verify_Check.mono _ _
      | exact verify_Right.mono _ _
      | exact LeO.none _
      | refine LeO.ite ?_ ?_
      | refine LeO.bind ?_ (fun _ => ?_)
    · intro y0 y1 y2 y3 y4
      unfold tamislaw06_VerifyLong.j1
      repeat' first
      | (with_reducible exact ih0 _ _ _)
      | (with_reducible exact ih1 _ _ _ _ _)
      | (with_reducible exact verify_Check.mono _ _)
      | (with_reducible exact verify_Right.mono _ _)
      | (with_reducible exact LeO.refl _)
      | (with_reducible exact LeO.none _)
      | (with_reducible refine LeO.ite ?_ ?_)
      | (with_reducible refine LeO.bind ?_ (fun _ => ?_))
      | exact ih0 _ _ _
      | exact ih1 _ _ _ _ _
      | exact verify_Check.mono _ _
      | exact verify_Right.mono _ _
      | exact LeO.none _
      | refine LeO.ite ?_ ?_
      | refine LeO.bind ?_ (fun _ => ?_)
theorem tamislaw06_VerifyLong.mono : ∀ a0 a1 k, LeO (tamislaw06_VerifyLong.f k a0 a1) (tamislaw06_VerifyLong.f (k + 1) a0 a1) := by
  intro a0 a1 k
  obtain ⟨ih0, ih1⟩ := tamislaw06_VerifyLong.mono_l k
  unfold tamislaw06_VerifyLong.f
  repeat' first
      | (with_reducible exact ih0 _ _ _)
      | (with_reducible exact ih1 _ _ _ _ _)
      | (with_reducible exact verify_Check.mono _ _)
      | (with_reducible exact verify_Right.mono _ _)
      | (with_reducible exact LeO.refl _)
      | (with_reducible exact LeO.none _)
      | (with_reducible refine LeO.ite ?_ ?_)
      | (with_reducible refine LeO.bind ?_ (fun _ => ?_))
      | exact ih0 _ _ _
      | exact ih1 _ _ _ _ _
      | exact verify_Check.mono _ _
      | exact verify_Right.mono _ _
      | exact LeO.none _
      | refine LeO.ite ?_ ?_
      | refine LeO.bind ?_ (fun _ => ?_)
set_option maxHeartbeats 8000000 in
set_option maxRecDepth 100000 in
theorem tamislaw06_VerifyLong.calls (k : Nat) (a0 : Int) (a1 : Int) (r : Bool) (w : World) (h : tamislaw06_VerifyLong.f k a0 a1 = some r) :
    Calls Try.prog 10 #[.int .i64 a0, .int .u32 a1] w fun e w' => e = .returned (.bool r) ∧ Below w.heap.size w w' := by
  have hu56 := Try.underlying56
  have HB := Aside0.mk (Below.refl w.heap.size w)
  have H : (tamislaw06_VerifyLong.l0 k (wrap64 (4090 + (wrap64 (Int.tmod (IntKind.u64.wrap (a0)) 12)))) a1 (([(⟨5, 0, 0, a1⟩ : S56)] : List (S56)))) = some r := h
  clear h
  obtain ⟨y334, hy334⟩ : ∃ y_ : List (S56), y_ = (([(⟨5, 0, 0, a1⟩ : S56)] : List (S56))) := ⟨_, rfl⟩
  replace H : (tamislaw06_VerifyLong.l0 k (wrap64 (4090 + (wrap64 (Int.tmod (IntKind.u64.wrap (a0)) 12)))) a1 y334) = some r := by first | (rw [hy334]; with_reducible exact H) | (have H2_ := (Option.bind_some _ _).symm.trans H; rw [hy334]; with_reducible exact H2_) | (have H2_ := (Option.bind_some _ _).symm.trans H; with_reducible exact H2_) | with_reducible exact H | (rw [hy334]; exact H) | exact H
  have Ny334 := Aside0.mk hy334
  clear hy334
  have H' := Aside0.mk H
  clear H
  go_enter Try.func10, Try.ntmps10
  go_wp2_with (first | ((with_reducible refine gate_dst (N := 15) rfl ?_); refine Kd.R_lit k56 _ 56 ?hg (N := 15) ?hd (xs := ([(⟨5, 0, 0, a1⟩ : S56)] : List (S56))) (inner := [.int .u16 5, .int .u8 0, .int .u8 0, .int .u32 a1]) (ok := fun _ => True) (okp := fun _ => True) ?hr ?hp (fun _ hk => hk) trivial (Below.refl _ _) (Nat.le_refl _) (by simp) ?_; (case hd => rfl); (case hg => rfl); (case hr => first | (go_simp; done) | (go_simp; rfl)); (case hp => exact (Reps.c4 (show Kd.M k56 _ _ _ (⟨5, 0, 0, a1⟩ : S56) [.int .u16 5, .int .u8 0, .int .u8 0, .int .u32 a1] from (k56_mkM _ _ _ (⟨5, 0, 0, a1⟩ : S56) )) (Reps.none _ _))); intro v335 w3 ho4 hb hg_ hnew_; clear hg_ hnew_; (first | rw [← Ny334.out] at ho4 | (simp only [Int.reduceToNat] at ho4; rw [← Ny334.out] at ho4)); have n0_ := Aside0.mk (Kd.R_lower ho4 (below_size (by repeat (first | (with_reducible first | exact HB.out | apply below_alloc | apply pw_below_drewN | apply below_drew1) | exact HB.out)))); have n1_ := Aside0.mk (below_step (by repeat (first | (with_reducible first | exact HB.out | apply below_alloc | apply pw_below_drewN | apply below_drew1) | exact HB.out)) hb); clear HB; have HO336 := n0_; have HB := n1_; clear n0_ n1_; clear hb ho4))
  go_loopg [5] k (fun kq v5 w' => ∃ (x5_1 : List (S56)), Aside0 (tamislaw06_VerifyLong.l0 kq (wrap64 (4090 + (wrap64 (Int.tmod (IntKind.u64.wrap (a0)) 12)))) a1 x5_1 = some r) ∧ Aside0 (kq ≤ k) ∧ Aside0 (Kd.R k56 56 w' w.heap.size (fun _ => True) v5 x5_1) ∧ Aside0 (Below w.heap.size w w'))
  case atStart => exact ⟨(y334), H', ⟨Nat.le_refl _⟩, ⟨by (with_reducible repeat (first | apply Kd.R_alloc | apply Kd.R_drewN | apply Kd.R_drew)); exact HO336.out⟩, ⟨by repeat (first | (with_reducible first | exact HB.out | apply below_alloc | apply pw_below_drewN | apply below_drew1) | exact HB.out)⟩⟩
  case round =>
    clear H'
    try clear c1
    try clear p2
    try clear c4
    obtain ⟨x5_1, HA, HK1, HO_5, HB⟩ := hrel
    cases gk with
    | zero => exact absurd HA.out (by simp [tamislaw06_VerifyLong.l0])
    | succ k1 =>
      have H := HA.out
      clear HA
      simp only [tamislaw06_VerifyLong.l0] at H
      by_cases c5 : (x5_1.length : Int) < (wrap64 ((wrap64 (4090 + (wrap64 (Int.tmod (IntKind.u64.wrap (a0)) 12)))) - 1))
      · rw [if_pos c5] at H
        have c5b0 : decide ((x5_1.length : Int) < (wrap64 ((wrap64 (4090 + (wrap64 (Int.tmod (IntKind.u64.wrap (a0)) 12)))) - 1))) = true := decide_eq_true c5
        clear c5
        by_cases c6 : x5_1.length < 17592186044416
        · rw [if_pos c6] at H
          have LMc6 := Aside0.mk c6
          clear c6
          obtain ⟨y337, hy337⟩ : ∃ y_ : List (S56), y_ = (x5_1 ++ [(⟨0, 0, 0, ((x5_1.length : Int)) % 4294967296⟩ : S56)]) := ⟨_, rfl⟩
          replace H : (tamislaw06_VerifyLong.l0 k1 (wrap64 (4090 + (wrap64 (Int.tmod (IntKind.u64.wrap (a0)) 12)))) a1 y337) = some r := by first | (rw [hy337]; with_reducible exact H) | (have H2_ := (Option.bind_some _ _).symm.trans H; rw [hy337]; with_reducible exact H2_) | (have H2_ := (Option.bind_some _ _).symm.trans H; with_reducible exact H2_) | with_reducible exact H | (rw [hy337]; exact H) | exact H
          have Ny337 := Aside0.mk hy337
          clear hy337
          have H' := Aside0.mk H
          clear H
          obtain ⟨Ao7, co7, eo7⟩ := Kd.R_slice HO_5.out
          subst eo7
          go_wp2_with (first | ((with_reducible refine gate_builtin (b := .append) (xs := #[.tmp 21, .tmp 26]) rfl ?_); at_builtin; refine Kd.R_append k56 (w0 := w) w.heap.size rfl (.tmp 21) (.tmp 26) 45 56 (.agg #[(.int .u16 0), (.int .u8 0), (.int .u8 0), (.int .u32 0)]) 8 rfl Try.underlying45 info56 rfl (by decide) (by omega) (.slice Ao7 x5_1.length co7) x5_1 (⟨0, 0, 0, ((x5_1.length : Int)) % 4294967296⟩ : S56) [.int .u16 0, .int .u8 0, .int .u8 0, .int .u32 (((x5_1.length : Int)) % 4294967296)] (fun _ => True) (fun _ => False) rfl rfl ?aP (fun _ hk => hk.elim) ?aF ?aO ?aB ?aS ?aL ?_; (case aP => exact k56_mkM _ _ _ (⟨0, 0, 0, ((x5_1.length : Int)) % 4294967296⟩ : S56)); (case aB => exact (by repeat (first | (with_reducible first | exact HB.out | apply below_alloc | apply pw_below_drewN | apply below_drew1) | exact HB.out))); (case aF => exact (fun _ _ => trivial)); (case aO => exact (by (with_reducible repeat (first | apply Kd.R_alloc | apply Kd.R_drewN | apply Kd.R_drew)); exact HO_5.out)); (case aS => exact (below_size (by repeat (first | (with_reducible first | exact HB.out | apply below_alloc | apply pw_below_drewN | apply below_drew1) | exact HB.out)))); (case aL => have := LMc6.out; omega); intro v338 w8 ho hb hg hat; rw [← Ny337.out] at ho; have n0_ := Aside0.mk (hb); have n1_ := Aside0.mk (ho); clear HB; clear HO_5; have HB := n0_; have HO339 := n1_; clear n0_ n1_; clear ho hb hg hat))
          go_roundg k1
          case measure => have := HK1.out; omega
          case rel => exact ⟨(y337), H', ⟨by have := HK1.out; omega⟩, ⟨by (with_reducible repeat (first | apply Kd.R_alloc | apply Kd.R_drewN | apply Kd.R_drew)); exact HO339.out⟩, ⟨by repeat (first | (with_reducible first | exact HB.out | apply below_alloc | apply pw_below_drewN | apply below_drew1) | exact HB.out)⟩⟩
        · rw [if_neg c6] at H
          exact absurd H (by simp)
      · rw [if_neg c5] at H
        have c5b0 : decide ((x5_1.length : Int) < (wrap64 ((wrap64 (4090 + (wrap64 (Int.tmod (IntKind.u64.wrap (a0)) 12)))) - 1))) = false := decide_eq_false c5
        clear c5
        replace H := Option.bind_eq_some_iff.mp H
        obtain ⟨⟨t340, t341, t342, t343⟩, A90, H⟩ := H
        replace H : (if x5_1.length < 17592186044416 then ((some (x5_1 ++ [(⟨t340, t341, t342, t343⟩ : S56)] : List (S56))).bind fun y344 => ((verify_Check.f k1 y344).bind fun bt347 => ((tamislaw06_awake.f).bind fun t349 => (if t349 = true then (tamislaw06_VerifyLong.j1 k1 (wrap64 (4090 + (wrap64 (Int.tmod (IntKind.u64.wrap (a0)) 12)))) a1 y344 bt347.2 (bt347.1 != 0)) else (tamislaw06_VerifyLong.j1 k1 (wrap64 (4090 + (wrap64 (Int.tmod (IntKind.u64.wrap (a0)) 12)))) a1 y344 bt347.2 true))))) else (none)) = some r := H
        have A9 := Aside0.mk A90
        clear A90
        by_cases c10 : x5_1.length < 17592186044416
        · rw [if_pos c10] at H
          have LMc10 := Aside0.mk c10
          clear c10
          obtain ⟨y344, hy344⟩ : ∃ y_ : List (S56), y_ = (x5_1 ++ [(⟨t340, t341, t342, t343⟩ : S56)]) := ⟨_, rfl⟩
          replace H : ((verify_Check.f k1 y344).bind fun bt347 => ((tamislaw06_awake.f).bind fun t349 => (if t349 = true then (tamislaw06_VerifyLong.j1 k1 (wrap64 (4090 + (wrap64 (Int.tmod (IntKind.u64.wrap (a0)) 12)))) a1 y344 bt347.2 (bt347.1 != 0)) else (tamislaw06_VerifyLong.j1 k1 (wrap64 (4090 + (wrap64 (Int.tmod (IntKind.u64.wrap (a0)) 12)))) a1 y344 bt347.2 true)))) = some r := by first | (rw [hy344]; with_reducible exact H) | (have H2_ := (Option.bind_some _ _).symm.trans H; rw [hy344]; with_reducible exact H2_) | (have H2_ := (Option.bind_some _ _).symm.trans H; with_reducible exact H2_) | with_reducible exact H | (rw [hy344]; exact H) | exact H
          have Ny344 := Aside0.mk hy344
          clear hy344
          replace H := Option.bind_eq_some_iff.mp H
          obtain ⟨⟨t347, t348⟩, A110, H⟩ := H
          replace H : ((tamislaw06_awake.f).bind fun t349 => (if t349 = true then (tamislaw06_VerifyLong.j1 k1 (wrap64 (4090 + (wrap64 (Int.tmod (IntKind.u64.wrap (a0)) 12)))) a1 y344 t348 (t347 != 0)) else (tamislaw06_VerifyLong.j1 k1 (wrap64 (4090 + (wrap64 (Int.tmod (IntKind.u64.wrap (a0)) 12)))) a1 y344 t348 true))) = some r := H
          have A11 := Aside0.mk A110
          clear A110
          have HC12 := Aside0.mk H
          clear H
          obtain ⟨Ao13, co13, eo13⟩ := Kd.R_slice HO_5.out
          subst eo13
          go_upto_region 7 with (first | ((with_reducible refine gate_callee (f := 47) rfl ?_); refine goesL_ (some 29) rfl rfl Try.func47 (by kernel_rfl) rfl #[] rfl (by (try simp only [List.map_toArray, List.map_cons, List.map_nil]); first | done | rfl | (simp only [List.length_drop, List.length_take]; rfl)) ?_; (with_reducible refine (tamislaw06_ret.calls  t340 t341 t342 t343 _ A9.out).mono ?_); rintro e w14 ⟨rfl, hb⟩; refine ⟨_, rfl, ?_⟩; have n0_ := Aside0.mk (Kd.R_below (by (with_reducible repeat (first | apply Kd.R_alloc | apply Kd.R_drewN | apply Kd.R_drew)); exact HO_5.out) hb); have n1_ := Aside0.mk (below_step (by repeat (first | (with_reducible first | exact HB.out | apply below_alloc | apply pw_below_drewN | apply below_drew1) | exact HB.out)) hb); clear HO_5; clear HB; have HO_5 := n0_; have HB := n1_; clear n0_ n1_; (try clear hb); (try clear hb2); (try clear hk); (try clear hi)) | ((with_reducible refine gate_builtin (b := .append) (xs := #[.tmp 28, .tmp 30]) rfl ?_); at_builtin; refine Kd.R_append k56 (w0 := w) w.heap.size rfl (.tmp 28) (.tmp 30) 45 56 (.agg #[(.int .u16 0), (.int .u8 0), (.int .u8 0), (.int .u32 0)]) 8 rfl Try.underlying45 info56 rfl (by decide) (by omega) (.slice Ao13 x5_1.length co13) x5_1 (⟨t340, t341, t342, t343⟩ : S56) [.int .u16 t340, .int .u8 t341, .int .u8 t342, .int .u32 t343] (fun _ => True) (fun _ => False) rfl rfl ?aP (fun _ hk => hk.elim) ?aF ?aO ?aB ?aS ?aL ?_; (case aP => exact k56_mkM _ _ _ (⟨t340, t341, t342, t343⟩ : S56)); (case aB => exact (by repeat (first | (with_reducible first | exact HB.out | apply below_alloc | apply pw_below_drewN | apply below_drew1) | exact HB.out))); (case aF => exact (fun _ _ => trivial)); (case aO => exact (by (with_reducible repeat (first | apply Kd.R_alloc | apply Kd.R_drewN | apply Kd.R_drew)); exact HO_5.out)); (case aS => exact (below_size (by repeat (first | (with_reducible first | exact HB.out | apply below_alloc | apply pw_below_drewN | apply below_drew1) | exact HB.out)))); (case aL => have := LMc10.out; omega); intro v345 w15 ho hb hg hat; rw [← Ny344.out] at ho; have n0_ := Aside0.mk (hb); have n1_ := Aside0.mk (ho); clear HB; clear HO_5; have HB := n0_; have HO346 := n1_; clear n0_ n1_; clear ho hb hg hat; obtain ⟨Ao16, co16, eo16⟩ := Kd.R_slice HO346.out; subst eo16) | ((with_reducible refine gate_callee (f := 38) rfl ?_); refine goesL_ (some 34) rfl rfl Try.func38 (by kernel_rfl) rfl #[.slice Ao16 y344.length co16] rfl (by (try simp only [List.map_toArray, List.map_cons, List.map_nil]); first | done | rfl | (simp only [List.length_drop, List.length_take]; rfl)) ?_; (with_reducible refine (verify_Check.calls k1 _ _ y344 t347 t348 _ ?side1 ?side2 A11.out).mono ?_); (case side1 => repeat (first | exact (Kd.R_reads' HO346.out).2.2 | (with_reducible refine Kd.C_alloc ?_ _) | (with_reducible refine Kd.C_drewN ?_ _) | (with_reducible refine Kd.C_drew ?_))); (case side2 => exact (Kd.R_reads' HO346.out).2.1); rintro e w17 ⟨rfl, hb⟩; refine ⟨_, rfl, ?_⟩; have n0_ := Aside0.mk (Kd.R_below (by (with_reducible repeat (first | apply Kd.R_alloc | apply Kd.R_drewN | apply Kd.R_drew)); exact HO346.out) hb); have n1_ := Aside0.mk (below_step (by repeat (first | (with_reducible first | exact HB.out | apply below_alloc | apply pw_below_drewN | apply below_drew1) | exact HB.out)) hb); clear HO346; clear HB; have HO346 := n0_; have HB := n1_; clear n0_ n1_; (try clear hb); (try clear hb2); (try clear hk); (try clear hi)))
          (try simp only [Act.put, List.setIfInBounds_toArray, List.set_cons_zero, List.set_cons_succ])
          go_cut [42] (fun v42 wc => ∃ (kq : Nat) (x42_11 : Bool), v42 = .bool x42_11 ∧ Aside0 (tamislaw06_VerifyLong.j1 kq (wrap64 (4090 + (wrap64 (Int.tmod (IntKind.u64.wrap (a0)) 12)))) a1 y344 t348 x42_11 = some r) ∧ Aside0 (kq ≤ k1) ∧ Aside0 (Kd.R k56 56 wc w.heap.size (fun _ => True) (.slice Ao16 y344.length co16) y344) ∧ Aside0 (Below w.heap.size w wc))
          case first =>
            have H := HC12.out
            clear HC12
            replace H := Option.bind_eq_some_iff.mp H
            obtain ⟨t349, A180, H⟩ := H
            replace H : (if t349 = true then (tamislaw06_VerifyLong.j1 k1 (wrap64 (4090 + (wrap64 (Int.tmod (IntKind.u64.wrap (a0)) 12)))) a1 y344 t348 (t347 != 0)) else (tamislaw06_VerifyLong.j1 k1 (wrap64 (4090 + (wrap64 (Int.tmod (IntKind.u64.wrap (a0)) 12)))) a1 y344 t348 true)) = some r := H
            have A18 := Aside0.mk A180
            clear A180
            by_cases c19 : t349 = true
            · subst c19
              have H1 : (tamislaw06_VerifyLong.j1 k1 (wrap64 (4090 + (wrap64 (Int.tmod (IntKind.u64.wrap (a0)) 12)))) a1 y344 t348 (t347 != 0)) = some r := by rw [if_pos rfl] at H; exact H
              clear H
              have H := H1
              clear H1
              have H' := Aside0.mk H
              clear H
              go_wp2_with (first | ((with_reducible refine gate_callee (f := 37) rfl ?_); refine goesL_ (some 37) rfl rfl Try.func37 (by kernel_rfl) rfl #[] rfl (by (try simp only [List.map_toArray, List.map_cons, List.map_nil]); first | done | rfl | (simp only [List.length_drop, List.length_take]; rfl)) ?_; (with_reducible refine (tamislaw06_awake.calls  true _ A18.out).mono ?_); rintro e w20 ⟨rfl, hb⟩; refine ⟨_, rfl, ?_⟩; have n0_ := Aside0.mk (Kd.R_below (by (with_reducible repeat (first | apply Kd.R_alloc | apply Kd.R_drewN | apply Kd.R_drew)); exact HO346.out) hb); have n1_ := Aside0.mk (below_step (by repeat (first | (with_reducible first | exact HB.out | apply below_alloc | apply pw_below_drewN | apply below_drew1) | exact HB.out)) hb); clear HO346; clear HB; have HO346 := n0_; have HB := n1_; clear n0_ n1_; (try clear hb); (try clear hb2); (try clear hk); (try clear hi)))
              go_meet
              case rel => exact ⟨_, ((t347 != 0)), (by first | rfl | (simp; done) | (simp [*]; done)), H', ⟨by have := HK1.out; first | omega | exact Nat.le_refl _⟩, ⟨by (with_reducible repeat (first | apply Kd.R_alloc | apply Kd.R_drewN | apply Kd.R_drew)); exact HO346.out⟩, ⟨by repeat (first | (with_reducible first | exact HB.out | apply below_alloc | apply pw_below_drewN | apply below_drew1) | exact HB.out)⟩⟩
            · replace c19 := Bool.eq_false_iff.mpr c19
              subst c19
              have H1 : (tamislaw06_VerifyLong.j1 k1 (wrap64 (4090 + (wrap64 (Int.tmod (IntKind.u64.wrap (a0)) 12)))) a1 y344 t348 true) = some r := by rw [if_neg (show ¬ (false = true) by decide)] at H; exact H
              clear H
              have H := H1
              clear H1
              have H' := Aside0.mk H
              clear H
              go_wp2_with (first | ((with_reducible refine gate_callee (f := 37) rfl ?_); refine goesL_ (some 37) rfl rfl Try.func37 (by kernel_rfl) rfl #[] rfl (by (try simp only [List.map_toArray, List.map_cons, List.map_nil]); first | done | rfl | (simp only [List.length_drop, List.length_take]; rfl)) ?_; (with_reducible refine (tamislaw06_awake.calls  false _ A18.out).mono ?_); rintro e w21 ⟨rfl, hb⟩; refine ⟨_, rfl, ?_⟩; have n0_ := Aside0.mk (Kd.R_below (by (with_reducible repeat (first | apply Kd.R_alloc | apply Kd.R_drewN | apply Kd.R_drew)); exact HO346.out) hb); have n1_ := Aside0.mk (below_step (by repeat (first | (with_reducible first | exact HB.out | apply below_alloc | apply pw_below_drewN | apply below_drew1) | exact HB.out)) hb); clear HO346; clear HB; have HO346 := n0_; have HB := n1_; clear n0_ n1_; (try clear hb); (try clear hb2); (try clear hk); (try clear hi)))
              go_meet
              case rel => exact ⟨_, (true), (by first | rfl | (simp; done) | (simp [*]; done)), H', ⟨by have := HK1.out; first | omega | exact Nat.le_refl _⟩, ⟨by (with_reducible repeat (first | apply Kd.R_alloc | apply Kd.R_drewN | apply Kd.R_drew)); exact HO346.out⟩, ⟨by repeat (first | (with_reducible first | exact HB.out | apply below_alloc | apply pw_below_drewN | apply below_drew1) | exact HB.out)⟩⟩
          case rest =>
            clear HC12
            try clear c1
            try clear p2
            try clear c3
            try clear c4
            try clear c5
            try clear c5b0
            try clear c6
            try clear p6
            try clear c10
            try clear c19
            try clear p2
            obtain ⟨kq, x42_11, rfl, HA, HJ11, HO_5, HB⟩ := hcut
            cases kq with
            | zero => exact absurd HA.out (by simp [tamislaw06_VerifyLong.j1])
            | succ kj11 =>
              have H := HA.out
              clear HA
              simp only [tamislaw06_VerifyLong.j1] at H
              by_cases c22 : x42_11 = true
              · subst c22
                have H1 : (some false) = some r := by rw [if_pos rfl] at H; exact H
                clear H
                have H := H1
                clear H1
                obtain rfl := Option.some.inj H
                go_wp2
                go_ret
                exact ⟨by first | rfl | (simp [errW_none, errW_some] <;> rfl) | (simp [*, errW_none, errW_some] <;> rfl), by repeat (first | (with_reducible first | exact HB.out | apply below_alloc | apply pw_below_drewN | apply below_drew1) | exact HB.out)⟩
              · replace c22 := Bool.eq_false_iff.mpr c22
                subst c22
                have H1 : (if (wrap64 (4090 + (wrap64 (Int.tmod (IntKind.u64.wrap (a0)) 12)))) > 4096 then (if t348 = 5 then ((verify_Right.f kj11 y344).bind fun t350 => (some (!t350))) else (some false)) else (if (IntKind.u64.wrap ((IntKind.u64.wrap (a1)) + 1)) ≥ (IntKind.u64.wrap ((wrap64 (4090 + (wrap64 (Int.tmod (IntKind.u64.wrap (a0)) 12)))))) then (some (t348 == 7)) else (if t348 = 0 then ((verify_Right.f kj11 y344).bind fun t351 => (some t351)) else (some false)))) = some r := by rw [if_neg (show ¬ (false = true) by decide)] at H; exact H
                clear H
                have H := H1
                clear H1
                by_cases c23 : (wrap64 (4090 + (wrap64 (Int.tmod (IntKind.u64.wrap (a0)) 12)))) > 4096
                · rw [if_pos c23] at H
                  have c23b0 : decide (4096 < (wrap64 (4090 + (wrap64 (Int.tmod (IntKind.u64.wrap (a0)) 12))))) = true := decide_eq_true c23
                  clear c23
                  by_cases c24 : t348 = 5
                  · rw [if_pos c24] at H
                    have c24b0 : (t348 == 5) = true := beq_iff_eq.mpr c24
                    have c24b1 : (t348 != 5) = false := bne_eq_false_iff_eq.mpr c24
                    clear c24
                    replace H := Option.bind_eq_some_iff.mp H
                    obtain ⟨t350, A250, H⟩ := H
                    replace H : (some (!t350)) = some r := H
                    have A25 := Aside0.mk A250
                    clear A250
                    obtain rfl := Option.some.inj H
                    go_wp2_with (first | (go_at_call 40; (with_reducible refine (verify_Right.calls kj11 _ _ y344 t350 _ ?side1 ?side2 A25.out).mono ?_); (case side1 => repeat (first | exact (Kd.R_reads' HO_5.out).2.2 | (with_reducible refine Kd.C_alloc ?_ _) | (with_reducible refine Kd.C_drewN ?_ _) | (with_reducible refine Kd.C_drew ?_))); (case side2 => exact (Kd.R_reads' HO_5.out).2.1); rintro e w26 ⟨rfl, hb⟩; have n0_ := Aside0.mk (Kd.R_below (by (with_reducible repeat (first | apply Kd.R_alloc | apply Kd.R_drewN | apply Kd.R_drew)); exact HO_5.out) hb); have n1_ := Aside0.mk (below_step (by repeat (first | (with_reducible first | exact HB.out | apply below_alloc | apply pw_below_drewN | apply below_drew1) | exact HB.out)) hb); clear HO_5; clear HB; have HO_5 := n0_; have HB := n1_; clear n0_ n1_; (try clear hb); (try clear hb2); (try clear hk); (try clear hi)))
                    go_ret
                    exact ⟨by first | rfl | (simp [errW_none, errW_some] <;> rfl) | (simp [*, errW_none, errW_some] <;> rfl), by repeat (first | (with_reducible first | exact HB.out | apply below_alloc | apply pw_below_drewN | apply below_drew1) | exact HB.out)⟩
                  · rw [if_neg c24] at H
                    have c24b0 : (t348 == 5) = false := beq_eq_false_iff_ne.mpr c24
                    have c24b1 : (t348 != 5) = true := bne_iff_ne.mpr c24
                    obtain rfl := Option.some.inj H
                    go_wp2
                    go_ret
                    exact ⟨by first | rfl | (simp [errW_none, errW_some] <;> rfl) | (simp [*, errW_none, errW_some] <;> rfl), by repeat (first | (with_reducible first | exact HB.out | apply below_alloc | apply pw_below_drewN | apply below_drew1) | exact HB.out)⟩
                · rw [if_neg c23] at H
                  have c23b0 : decide (4096 < (wrap64 (4090 + (wrap64 (Int.tmod (IntKind.u64.wrap (a0)) 12))))) = false := decide_eq_false c23
                  clear c23
                  by_cases c27 : (IntKind.u64.wrap ((IntKind.u64.wrap (a1)) + 1)) ≥ (IntKind.u64.wrap ((wrap64 (4090 + (wrap64 (Int.tmod (IntKind.u64.wrap (a0)) 12))))))
                  · rw [if_pos c27] at H
                    have c27b0 : decide ((IntKind.u64.wrap ((wrap64 (4090 + (wrap64 (Int.tmod (IntKind.u64.wrap (a0)) 12)))))) ≤ (IntKind.u64.wrap ((IntKind.u64.wrap (a1)) + 1))) = true := decide_eq_true c27
                    clear c27
                    obtain rfl := Option.some.inj H
                    go_wp2
                    go_ret
                    exact ⟨by first | rfl | (simp [errW_none, errW_some] <;> rfl) | (simp [*, errW_none, errW_some] <;> rfl), by repeat (first | (with_reducible first | exact HB.out | apply below_alloc | apply pw_below_drewN | apply below_drew1) | exact HB.out)⟩
                  · rw [if_neg c27] at H
                    have c27b0 : decide ((IntKind.u64.wrap ((wrap64 (4090 + (wrap64 (Int.tmod (IntKind.u64.wrap (a0)) 12)))))) ≤ (IntKind.u64.wrap ((IntKind.u64.wrap (a1)) + 1))) = false := decide_eq_false c27
                    clear c27
                    by_cases c28 : t348 = 0
                    · rw [if_pos c28] at H
                      have c28b0 : (t348 == 0) = true := beq_iff_eq.mpr c28
                      have c28b1 : (t348 != 0) = false := bne_eq_false_iff_eq.mpr c28
                      clear c28
                      replace H := Option.bind_eq_some_iff.mp H
                      obtain ⟨t351, A290, H⟩ := H
                      replace H : (some t351) = some r := H
                      have A29 := Aside0.mk A290
                      clear A290
                      obtain rfl := Option.some.inj H
                      go_wp2_with (first | (go_at_call 40; (with_reducible refine (verify_Right.calls kj11 _ _ y344 t351 _ ?side1 ?side2 A29.out).mono ?_); (case side1 => repeat (first | exact (Kd.R_reads' HO_5.out).2.2 | (with_reducible refine Kd.C_alloc ?_ _) | (with_reducible refine Kd.C_drewN ?_ _) | (with_reducible refine Kd.C_drew ?_))); (case side2 => exact (Kd.R_reads' HO_5.out).2.1); rintro e w30 ⟨rfl, hb⟩; have n0_ := Aside0.mk (Kd.R_below (by (with_reducible repeat (first | apply Kd.R_alloc | apply Kd.R_drewN | apply Kd.R_drew)); exact HO_5.out) hb); have n1_ := Aside0.mk (below_step (by repeat (first | (with_reducible first | exact HB.out | apply below_alloc | apply pw_below_drewN | apply below_drew1) | exact HB.out)) hb); clear HO_5; clear HB; have HO_5 := n0_; have HB := n1_; clear n0_ n1_; (try clear hb); (try clear hb2); (try clear hk); (try clear hi)))
                      go_ret
                      exact ⟨by first | rfl | (simp [errW_none, errW_some] <;> rfl) | (simp [*, errW_none, errW_some] <;> rfl), by repeat (first | (with_reducible first | exact HB.out | apply below_alloc | apply pw_below_drewN | apply below_drew1) | exact HB.out)⟩
                    · rw [if_neg c28] at H
                      have c28b0 : (t348 == 0) = false := beq_eq_false_iff_ne.mpr c28
                      have c28b1 : (t348 != 0) = true := bne_iff_ne.mpr c28
                      obtain rfl := Option.some.inj H
                      go_wp2
                      go_ret
                      exact ⟨by first | rfl | (simp [errW_none, errW_some] <;> rfl) | (simp [*, errW_none, errW_some] <;> rfl), by repeat (first | (with_reducible first | exact HB.out | apply below_alloc | apply pw_below_drewN | apply below_drew1) | exact HB.out)⟩
        · rw [if_neg c10] at H
          exact absurd H (by simp)

/-- THE ONE PURE STATEMENT of tamislaw06_VerifyLong: yours. -/
def tamislaw06_VerifyLong.Pure : Prop := ∀ (a0 : Int) (a1 : Int), (Lit.int .i64 a0).wf = true → (Lit.int .u32 a1).wf = true → ∃ k, tamislaw06_VerifyLong.f k a0 a1 = some true
theorem tamislaw06_VerifyLong.walk (P : tamislaw06_VerifyLong.Pure) (a0 : Int) (a1 : Int) (w : World) (w0 : (Lit.int .i64 a0).wf = true) (w1 : (Lit.int .u32 a1).wf = true) :
    Calls Try.prog 10 #[.int .i64 a0, .int .u32 a1] w fun e w' => e = .returned (.bool true) ∧ Below w.heap.size w w' := by
  obtain ⟨k, h⟩ := P a0 a1 w0 w1
  refine (tamislaw06_VerifyLong.calls k a0 a1 true w h).mono ?_
  rintro e w' ⟨rfl, hd⟩
  exact ⟨rfl, hd⟩

end Go.Proofs.Ytmjpibeiglicdaa.X
