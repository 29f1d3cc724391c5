-- PRINTED BY print.sh 35421559b90ae4d0a3588c463048766b98c2df88dd9212a6774a882060cdf62d: not written by this session
import Derived.Test.YthcanciolelmgaaPWordBitsx0
import Derived.Test.YthcanciolelmgaaPWordBitsx1
namespace Go.Proofs.Ythcanciolelmgaa.PWordBits
open Go.RowKit Go.Proofs.YthcanciolelmgaaW.PrintWords Go.Proofs.YthcanciolelmgaaW.PrintLast Go.Proofs.YthcanciolelmgaaW.PrintMore
attribute [local go_sem] max2_int min2_int max_two min_two max_three min_three max_four min_four   -- for this text's walks alone
set_option linter.unusedVariables false
set_option linter.unusedSimpArgs false

/-! ### tamisref01_bits: function 30 -/
def tamisref01_bits.l0 : Nat → Int → List Int → Int → Option (List Int)
  | 0, _, _, _ => none
  | k + 1, x0, x3, x4 => if x4 < 64 then (if 0 ≤ x4 then (if x3.length < 17592186044416 then (tamisref01_bits.l0 k x0 (x3 ++ [wrap64 (Int.tmod (shr .u64 x0 x4) 2)]) (wrap64 (x4 + 1))) else (none)) else (none)) else (some x3)
def tamisref01_bits.f (k : Nat) (a0 : Int) : Option (List Int) := tamisref01_bits.l0 k a0 ([] : List Int) 0
theorem tamisref01_bits.mono_l : ∀ k, (∀ y0 y1 y2, LeO (tamisref01_bits.l0 k y0 y1 y2) (tamisref01_bits.l0 (k + 1) y0 y1 y2))
  | 0 => fun _ _ _ r h => by simp [tamisref01_bits.l0] at h
  | k + 1 => by
    have ih0 := tamisref01_bits.mono_l k
    · intro y0 y1 y2
      unfold tamisref01_bits.l0
      repeat' first
      | (with_reducible exact ih0 _ _ _)
      | (with_reducible exact LeO.refl _)
      | (with_reducible exact LeO.none _)
      | (with_reducible refine LeO.ite ?_ ?_)
      | (with_reducible refine LeO.bind ?_ (fun _ => ?_))
      | exact ih0 _ _ _
      | exact LeO.none _
      | refine LeO.ite ?_ ?_
      | refine LeO.bind ?_ (fun _ => ?_)
theorem tamisref01_bits.mono : ∀ a0 k, LeO (tamisref01_bits.f k a0) (tamisref01_bits.f (k + 1) a0) := by
  intro a0 k
  have ih0 := tamisref01_bits.mono_l k
  unfold tamisref01_bits.f
  repeat' first
      | (with_reducible exact ih0 _ _ _)
      | (with_reducible exact LeO.refl _)
      | (with_reducible exact LeO.none _)
      | (with_reducible refine LeO.ite ?_ ?_)
      | (with_reducible refine LeO.bind ?_ (fun _ => ?_))
      | exact ih0 _ _ _
      | exact LeO.none _
      | refine LeO.ite ?_ ?_
      | refine LeO.bind ?_ (fun _ => ?_)
set_option maxHeartbeats 8000000 in
set_option maxRecDepth 100000 in
theorem tamisref01_bits.calls (k : Nat) (a0 : Int) (r : List Int) (w : World) (h : tamisref01_bits.f k a0 = some r) :
    Calls Try.prog 30 #[.int .u64 a0] w fun e w' => ∃ v0_ : Value, e = .returned (v0_) ∧ Kd.R (Kd.int .i64) 3 w' w.heap.size (fun _ => True) v0_ r ∧ Below w.heap.size w w' := by
  have HB := Aside0.mk (Below.refl w.heap.size w)
  have H : (tamisref01_bits.l0 k a0 ([] : List Int) 0) = some r := h
  clear h
  have H' := Aside0.mk H
  clear H
  go_enter Try.func30, Try.ntmps30
  go_wp2
  go_loopg [3, 4] k (fun kq v3 v4 w' => ∃ (x3_1 : List Int) (x4_1 : Int), v4 = .int .i64 x4_1 ∧ Aside0 (tamisref01_bits.l0 kq a0 x3_1 x4_1 = some r) ∧ Aside0 (kq ≤ k) ∧ Aside0 (Kd.R (Kd.int .i64) 3 w' w.heap.size (fun _ => True) v3 x3_1) ∧ Aside0 (Below w.heap.size w w'))
  case atStart => exact ⟨(([] : List Int)), (0), (by first | rfl | (simp; done) | (simp [*]; done)), H', ⟨Nat.le_refl _⟩, ⟨by first | exact Kd.R_nil _ _ _ _ _ | exact Kd.N_nil _ _ _ _ _ | exact Kd.V_nil _ _ _ _ _ | exact Kd.Q_nil _ _ _ _ _ | exact Kd.S_nil _ _ _ _ _⟩, ⟨by repeat (first | (with_reducible first | exact HB.out | apply below_alloc | apply pw_below_drewN | apply below_drew1) | exact HB.out)⟩⟩
  case round =>
    clear H'
    obtain ⟨x3_1, x4_1, rfl, HA, HK1, HO_3, HB⟩ := hrel
    cases gk with
    | zero => exact absurd HA.out (by simp [tamisref01_bits.l0])
    | succ k1 =>
      have H := HA.out
      clear HA
      simp only [tamisref01_bits.l0] at H
      by_cases c2 : x4_1 < 64
      · rw [if_pos c2] at H
        have c2b0 : decide (x4_1 < 64) = true := decide_eq_true c2
        clear c2
        by_cases c3 : 0 ≤ x4_1
        · rw [if_pos c3] at H
          have c3b0 := eq_true c3
          have c3b1 : decide (0 ≤ x4_1) = true := decide_eq_true c3
          clear c3
          obtain ⟨ji4, hji4⟩ : ∃ j_ : Int, (shr .u64 a0 x4_1) = j_ := ⟨_, rfl⟩
          replace H : (if x3_1.length < 17592186044416 then (tamisref01_bits.l0 k1 a0 (x3_1 ++ [wrap64 (Int.tmod (ji4) 2)]) (wrap64 (x4_1 + 1))) else (none)) = some r := by first | (rw [hji4] at H; exact H) | (simp only [hji4] at H ⊢; exact H)
          have hji4_ : (a0 / 2 ^ min x4_1.toNat 64) = ji4 := hji4
          have hji4z : x4_1 ≤ 64 → (a0 / 2 ^ x4_1.toNat) = ji4 := shr_small hji4
          by_cases c5 : x3_1.length < 17592186044416
          · rw [if_pos c5] at H
            have LMc5 := Aside0.mk c5
            clear c5
            obtain ⟨y124, hy124⟩ : ∃ y_ : List Int, y_ = (x3_1 ++ [wrap64 (Int.tmod (ji4) 2)]) := ⟨_, rfl⟩
            replace H : (tamisref01_bits.l0 k1 a0 y124 (wrap64 (x4_1 + 1))) = some r := by first | (rw [hy124]; with_reducible exact H) | (have H2_ := (Option.bind_some _ _).symm.trans H; rw [hy124]; with_reducible exact H2_) | (have H2_ := (Option.bind_some _ _).symm.trans H; with_reducible exact H2_) | with_reducible exact H | (rw [hy124]; exact H) | exact H
            have Ny124 := Aside0.mk hy124
            clear hy124
            have H' := Aside0.mk H
            clear H
            go_wp2_with (first | ((with_reducible refine gate_builtin (b := .append) (xs := #[.tmp 9, .tmp 15]) rfl ?_); at_builtin; refine Kd.R_append (Kd.int .i64) (w0 := w) w.heap.size rfl (.tmp 9) (.tmp 15) 41 3 (.int .i64 0) 8 rfl Try.underlying41 info3 rfl (by decide) (by omega) u3 x3_1 (wrap64 (Int.tmod (ji4) 2)) [.int .i64 (wrap64 (Int.tmod (ji4) 2))] (fun _ => True) (fun _ => False) rfl rfl ?aP (fun _ hk => hk.elim) ?aF ?aO ?aB ?aS ?aL ?_; (case aP => exact rfl); (case aB => exact (by repeat (first | (with_reducible first | exact HB.out | apply below_alloc | apply pw_below_drewN | apply below_drew1) | exact HB.out))); (case aF => exact (fun _ _ => trivial)); (case aO => exact (by (with_reducible repeat (first | apply Kd.R_alloc | apply Kd.R_drewN | apply Kd.R_drew)); exact HO_3.out)); (case aS => exact (below_size (by repeat (first | (with_reducible first | exact HB.out | apply below_alloc | apply pw_below_drewN | apply below_drew1) | exact HB.out)))); (case aL => have := LMc5.out; omega); intro v125 w6 ho hb hg hat; rw [← Ny124.out] at ho; have n0_ := Aside0.mk (hb); have n1_ := Aside0.mk (ho); clear HB; clear HO_3; have HB := n0_; have HO126 := n1_; clear n0_ n1_; clear ho hb hg hat))
            go_roundg k1
            case measure => have := HK1.out; omega
            case rel => exact ⟨(y124), (wrap64 (x4_1 + 1)), (by first | rfl | (simp; done) | (simp [*]; done)), H', ⟨by have := HK1.out; omega⟩, ⟨by (with_reducible repeat (first | apply Kd.R_alloc | apply Kd.R_drewN | apply Kd.R_drew)); exact HO126.out⟩, ⟨by repeat (first | (with_reducible first | exact HB.out | apply below_alloc | apply pw_below_drewN | apply below_drew1) | exact HB.out)⟩⟩
          · rw [if_neg c5] at H
            exact absurd H (by simp)
        · rw [if_neg c3] at H
          exact absurd H (by simp)
      · rw [if_neg c2] at H
        have c2b0 : decide (x4_1 < 64) = false := decide_eq_false c2
        clear c2
        obtain rfl := Option.some.inj H
        go_wp2
        go_ret
        exact ⟨_, by first | rfl | (simp [errW_none, errW_some] <;> rfl) | (simp [*, errW_none, errW_some] <;> rfl), by (with_reducible repeat (first | apply Kd.R_alloc | apply Kd.R_drewN | apply Kd.R_drew)); exact HO_3.out, by repeat (first | (with_reducible first | exact HB.out | apply below_alloc | apply pw_below_drewN | apply below_drew1) | exact HB.out)⟩

/-! ### tamisref01_Ones: function 22 -/
def tamisref01_Ones.l0 : Nat → List Int → Int → Int → Option (Int)
  | 0, _, _, _ => none
  | k + 1, x3, x4, x5 => if x5 < 64 then (if 0 ≤ x5 then (if x5 < (x3.length : Int) then (tamisref01_Ones.l0 k x3 (wrap64 (x4 + (rd x3 x5))) (wrap64 (x5 + 1))) else (none)) else (none)) else (some x4)
def tamisref01_Ones.f (k : Nat) (a0 : Int) : Option (Int) := (tamisref01_bits.f k a0).bind fun t127 => (tamisref01_Ones.l0 k t127 0 0)
theorem tamisref01_Ones.mono_l : ∀ k, (∀ y0 y1 y2, LeO (tamisref01_Ones.l0 k y0 y1 y2) (tamisref01_Ones.l0 (k + 1) y0 y1 y2))
  | 0 => fun _ _ _ r h => by simp [tamisref01_Ones.l0] at h
  | k + 1 => by
    have ih0 := tamisref01_Ones.mono_l k
    · intro y0 y1 y2
      unfold tamisref01_Ones.l0
      repeat' first
      | (with_reducible exact ih0 _ _ _)
      | (with_reducible exact tamisref01_bits.mono _ _)
      | (with_reducible exact LeO.refl _)
      | (with_reducible exact LeO.none _)
      | (with_reducible refine LeO.ite ?_ ?_)
      | (with_reducible refine LeO.bind ?_ (fun _ => ?_))
      | exact ih0 _ _ _
      | exact tamisref01_bits.mono _ _
      | exact LeO.none _
      | refine LeO.ite ?_ ?_
      | refine LeO.bind ?_ (fun _ => ?_)
theorem tamisref01_Ones.mono : ∀ a0 k, LeO (tamisref01_Ones.f k a0) (tamisref01_Ones.f (k + 1) a0) := by
  intro a0 k
  have ih0 := tamisref01_Ones.mono_l k
  unfold tamisref01_Ones.f
  repeat' first
      | (with_reducible exact ih0 _ _ _)
      | (with_reducible exact tamisref01_bits.mono _ _)
      | (with_reducible exact LeO.refl _)
      | (with_reducible exact LeO.none _)
      | (with_reducible refine LeO.ite ?_ ?_)
      | (with_reducible refine LeO.bind ?_ (fun _ => ?_))
      | exact ih0 _ _ _
      | exact tamisref01_bits.mono _ _
      | exact LeO.none _
      | refine LeO.ite ?_ ?_
      | refine LeO.bind ?_ (fun _ => ?_)
set_option maxHeartbeats 8000000 in
set_option maxRecDepth 100000 in
theorem tamisref01_Ones.calls (k : Nat) (a0 : Int) (r : Int) (w : World) (h : tamisref01_Ones.f k a0 = some r) :
    Calls Try.prog 22 #[.int .u64 a0] w fun e w' => e = .returned (.int .i64 r) ∧ Below w.heap.size w w' := by
  have HB := Aside0.mk (Below.refl w.heap.size w)
  have H : ((tamisref01_bits.f k a0).bind fun t127 => (tamisref01_Ones.l0 k t127 0 0)) = some r := h
  clear h
  replace H := Option.bind_eq_some_iff.mp H
  obtain ⟨t127, A20, H⟩ := H
  replace H : (tamisref01_Ones.l0 k t127 0 0) = some r := H
  have A2 := Aside0.mk A20
  clear A20
  have H' := Aside0.mk H
  clear H
  go_enter Try.func22, Try.ntmps22
  go_wp2_with (first | ((with_reducible refine gate_callee (f := 30) rfl ?_); refine goesL_ (some 7) rfl rfl Try.func30 (by kernel_rfl) rfl #[.int .u64 a0] rfl (by (try simp only [List.map_toArray, List.map_cons, List.map_nil]); first | done | rfl | (simp only [List.length_drop, List.length_take]; rfl)) ?_; (with_reducible refine (tamisref01_bits.calls k a0 t127 _ A2.out).mono ?_); rintro e w3 ⟨v128, rfl, ho0, hb⟩; refine ⟨_, rfl, ?_⟩; have n0_ := Aside0.mk (Kd.R_lower ho0 (below_size (by repeat (first | (with_reducible first | exact HB.out | apply below_alloc | apply pw_below_drewN | apply below_drew1) | exact HB.out)))); have n1_ := Aside0.mk (below_step (by repeat (first | (with_reducible first | exact HB.out | apply below_alloc | apply pw_below_drewN | apply below_drew1) | exact HB.out)) hb); clear HB; have HO129 := n0_; have HB := n1_; clear n0_ n1_; (try clear hb); (try clear hb2); (try clear hk); (try clear hi); (try clear ho0)))
  go_loopg [4, 5] k (fun kq v4 v5 w' => ∃ (x4_1 : Int) (x5_1 : Int), v4 = .int .i64 x4_1 ∧ v5 = .int .i64 x5_1 ∧ Aside0 (tamisref01_Ones.l0 kq t127 x4_1 x5_1 = some r) ∧ Aside0 (kq ≤ k) ∧ Aside0 (Kd.R (Kd.int .i64) 3 w' w.heap.size (fun _ => True) v128 t127) ∧ Aside0 (Below w.heap.size w w'))
  case atStart => exact ⟨(0), (0), (by first | rfl | (simp; done) | (simp [*]; done)), (by first | rfl | (simp; done) | (simp [*]; done)), H', ⟨Nat.le_refl _⟩, ⟨by (with_reducible repeat (first | apply Kd.R_alloc | apply Kd.R_drewN | apply Kd.R_drew)); exact HO129.out⟩, ⟨by repeat (first | (with_reducible first | exact HB.out | apply below_alloc | apply pw_below_drewN | apply below_drew1) | exact HB.out)⟩⟩
  case round =>
    clear H'
    try clear c2
    try clear p2
    try clear c3
    obtain ⟨x4_1, x5_1, rfl, rfl, HA, HK1, HO_3, HB⟩ := hrel
    cases gk with
    | zero => exact absurd HA.out (by simp [tamisref01_Ones.l0])
    | succ k1 =>
      have H := HA.out
      clear HA
      simp only [tamisref01_Ones.l0] at H
      by_cases c4 : x5_1 < 64
      · rw [if_pos c4] at H
        have c4b0 : decide (x5_1 < 64) = true := decide_eq_true c4
        clear c4
        by_cases c5 : 0 ≤ x5_1
        · rw [if_pos c5] at H
          have c5b0 : decide (0 ≤ x5_1) = true := decide_eq_true c5
          clear c5
          by_cases c6 : x5_1 < (t127.length : Int)
          · rw [if_pos c6] at H
            have c6b0 : decide (x5_1 < (t127.length : Int)) = true := decide_eq_true c6
            clear c6
            have H' := Aside0.mk H
            clear H
            obtain ⟨Ao7, co7, eo7⟩ := Kd.R_slice HO_3.out
            subst eo7
            have p130 : 0 ≤ (x5_1 : Int) := of_decide_eq_true (by first | (with_reducible assumption) | assumption)
            have q130 : x5_1 < (t127.length : Int) := of_decide_eq_true (by first | (with_reducible assumption) | assumption)
            obtain ⟨ad130, e130, hx130_0⟩ := Kd.at_int (Kd.R_reads' HO_3.out).2.2 x5_1 p130 q130
            cases e130
            replace p130 := eq_true p130
            replace q130 := eq_true q130
            go_wp2
            go_roundg k1
            case measure => have := HK1.out; omega
            case rel => exact ⟨(wrap64 (x4_1 + (rd t127 x5_1))), (wrap64 (x5_1 + 1)), (by first | rfl | (simp; done) | (simp [*]; done)), (by first | rfl | (simp; done) | (simp [*]; done)), H', ⟨by have := HK1.out; omega⟩, ⟨by (with_reducible repeat (first | apply Kd.R_alloc | apply Kd.R_drewN | apply Kd.R_drew)); exact HO_3.out⟩, ⟨by repeat (first | (with_reducible first | exact HB.out | apply below_alloc | apply pw_below_drewN | apply below_drew1) | exact HB.out)⟩⟩
          · rw [if_neg c6] at H
            exact absurd H (by simp)
        · rw [if_neg c5] at H
          exact absurd H (by simp)
      · rw [if_neg c4] at H
        have c4b0 : decide (x5_1 < 64) = false := decide_eq_false c4
        clear c4
        obtain rfl := Option.some.inj H
        go_wp2
        go_ret
        exact ⟨by first | rfl | (simp [errW_none, errW_some] <;> rfl) | (simp [*, errW_none, errW_some] <;> rfl), by repeat (first | (with_reducible first | exact HB.out | apply below_alloc | apply pw_below_drewN | apply below_drew1) | exact HB.out)⟩

/-! ### tamisref01_Span: function 23 -/
def tamisref01_Span.l0 : Nat → Int → Int → Int → Int → Option (Int)
  | 0, _, _, _, _ => none
  | k + 1, x0, x1, x5, x6 => if x6 ≥ 0 then (if x6 ≥ x0 then (if x6 ≤ x1 then (tamisref01_Span.l0 k x0 x1 (IntKind.u64.wrap ((IntKind.u64.wrap (2 * x5)) + 1)) (wrap64 (x6 - 1))) else (tamisref01_Span.l0 k x0 x1 (IntKind.u64.wrap (2 * x5)) (wrap64 (x6 - 1)))) else (tamisref01_Span.l0 k x0 x1 (IntKind.u64.wrap (2 * x5)) (wrap64 (x6 - 1)))) else (some x5)
def tamisref01_Span.f (k : Nat) (a0 : Int) (a1 : Int) : Option (Int) := tamisref01_Span.l0 k a0 a1 0 63
theorem tamisref01_Span.mono_l : ∀ k, (∀ y0 y1 y2 y3, LeO (tamisref01_Span.l0 k y0 y1 y2 y3) (tamisref01_Span.l0 (k + 1) y0 y1 y2 y3))
  | 0 => fun _ _ _ _ r h => by simp [tamisref01_Span.l0] at h
  | k + 1 => by
    have ih0 := tamisref01_Span.mono_l k
    · intro y0 y1 y2 y3
      unfold tamisref01_Span.l0
      repeat' first
      | (with_reducible exact ih0 _ _ _ _)
      | (with_reducible exact LeO.refl _)
      | (with_reducible exact LeO.none _)
      | (with_reducible refine LeO.ite ?_ ?_)
      | (with_reducible refine LeO.bind ?_ (fun _ => ?_))
      | exact ih0 _ _ _ _
      | exact LeO.none _
      | refine LeO.ite ?_ ?_
      | refine LeO.bind ?_ (fun _ => ?_)
theorem tamisref01_Span.mono : ∀ a0 a1 k, LeO (tamisref01_Span.f k a0 a1) (tamisref01_Span.f (k + 1) a0 a1) := by
  intro a0 a1 k
  have ih0 := tamisref01_Span.mono_l k
  unfold tamisref01_Span.f
  repeat' first
      | (with_reducible exact ih0 _ _ _ _)
      | (with_reducible exact LeO.refl _)
      | (with_reducible exact LeO.none _)
      | (with_reducible refine LeO.ite ?_ ?_)
      | (with_reducible refine LeO.bind ?_ (fun _ => ?_))
      | exact ih0 _ _ _ _
      | exact LeO.none _
      | refine LeO.ite ?_ ?_
      | refine LeO.bind ?_ (fun _ => ?_)
set_option maxHeartbeats 8000000 in
set_option maxRecDepth 100000 in
theorem tamisref01_Span.calls (k : Nat) (a0 : Int) (a1 : Int) (r : Int) (w : World) (h : tamisref01_Span.f k a0 a1 = some r) :
    Calls Try.prog 23 #[.int .i64 a0, .int .i64 a1] w fun e w' => e = .returned (.int .u64 r) ∧ Drawn0 w w' := by
  have H : (tamisref01_Span.l0 k a0 a1 0 63) = some r := h
  clear h
  have H' := Aside0.mk H
  clear H
  go_enter Try.func23, Try.ntmps23
  go_wp2
  go_loopg [5, 6] k (fun kq v5 v6 w' => ∃ (x5_1 : Int) (x6_1 : Int), v5 = .int .u64 x5_1 ∧ v6 = .int .i64 x6_1 ∧ Aside0 (tamisref01_Span.l0 kq a0 a1 x5_1 x6_1 = some r) ∧ Aside0 (kq ≤ k) ∧ Drawn0 w w')
  case atStart => exact ⟨(0), (63), (by first | rfl | (simp; done) | (simp [*]; done)), (by first | rfl | (simp; done) | (simp [*]; done)), H', ⟨Nat.le_refl _⟩, by repeat (first | exact Drawn0.refl _ | apply Drawn0.step)⟩
  case round =>
    clear H'
    try clear c2
    try clear p2
    obtain ⟨x5_1, x6_1, rfl, rfl, HA, HK1, ⟨m1, rfl⟩⟩ := hrel
    cases gk with
    | zero => exact absurd HA.out (by simp [tamisref01_Span.l0])
    | succ k1 =>
      have H := HA.out
      clear HA
      simp only [tamisref01_Span.l0] at H
      by_cases c3 : x6_1 ≥ 0
      · rw [if_pos c3] at H
        have c3b0 : decide (0 ≤ x6_1) = true := decide_eq_true c3
        clear c3
        by_cases c4 : x6_1 ≥ a0
        · rw [if_pos c4] at H
          have c4b0 : decide (a0 ≤ x6_1) = true := decide_eq_true c4
          clear c4
          by_cases c5 : x6_1 ≤ a1
          · rw [if_pos c5] at H
            have c5b0 : decide (x6_1 ≤ a1) = true := decide_eq_true c5
            clear c5
            have H' := Aside0.mk H
            clear H
            go_wp2
            go_roundg k1
            case measure => have := HK1.out; omega
            case rel => exact ⟨(IntKind.u64.wrap ((IntKind.u64.wrap (2 * x5_1)) + 1)), (wrap64 (x6_1 - 1)), (by first | rfl | (simp; done) | (simp [*]; done)), (by first | rfl | (simp; done) | (simp [*]; done)), H', ⟨by have := HK1.out; omega⟩, by repeat (first | exact Drawn0.refl _ | apply Drawn0.step)⟩
          · rw [if_neg c5] at H
            have c5b0 : decide (x6_1 ≤ a1) = false := decide_eq_false c5
            clear c5
            have H' := Aside0.mk H
            clear H
            go_wp2
            go_roundg k1
            case measure => have := HK1.out; omega
            case rel => exact ⟨(IntKind.u64.wrap (2 * x5_1)), (wrap64 (x6_1 - 1)), (by first | rfl | (simp; done) | (simp [*]; done)), (by first | rfl | (simp; done) | (simp [*]; done)), H', ⟨by have := HK1.out; omega⟩, by repeat (first | exact Drawn0.refl _ | apply Drawn0.step)⟩
        · rw [if_neg c4] at H
          have c4b0 : decide (a0 ≤ x6_1) = false := decide_eq_false c4
          clear c4
          have H' := Aside0.mk H
          clear H
          go_wp2
          go_roundg k1
          case measure => have := HK1.out; omega
          case rel => exact ⟨(IntKind.u64.wrap (2 * x5_1)), (wrap64 (x6_1 - 1)), (by first | rfl | (simp; done) | (simp [*]; done)), (by first | rfl | (simp; done) | (simp [*]; done)), H', ⟨by have := HK1.out; omega⟩, by repeat (first | exact Drawn0.refl _ | apply Drawn0.step)⟩
      · rw [if_neg c3] at H
        have c3b0 : decide (0 ≤ x6_1) = false := decide_eq_false c3
        clear c3
        obtain rfl := Option.some.inj H
        go_wp2
        go_ret
        exact ⟨by first | rfl | (simp; done) | (simp [*]; done), by repeat (first | exact Drawn0.refl _ | apply Drawn0.step)⟩

/-! ### tamisref01_Bit: function 25 -/
def tamisref01_Bit.f (k : Nat) (a0 : Int) (a1 : Int) : Option (Bool) := if a1 ≥ 0 then (if a1 < 64 then ((tamisref01_bits.f k a0).bind fun t131 => (if 0 ≤ a1 then (if a1 < (t131.length : Int) then (some ((rd t131 a1) == 1)) else (none)) else (none))) else (some false)) else (some false)
theorem tamisref01_Bit.mono : ∀ a0 a1 k, LeO (tamisref01_Bit.f k a0 a1) (tamisref01_Bit.f (k + 1) a0 a1) := by
  intro a0 a1 k
  unfold tamisref01_Bit.f
  repeat' first
      | (with_reducible exact tamisref01_bits.mono _ _)
      | (with_reducible exact LeO.refl _)
      | (with_reducible exact LeO.none _)
      | (with_reducible refine LeO.ite ?_ ?_)
      | (with_reducible refine LeO.bind ?_ (fun _ => ?_))
      | exact tamisref01_bits.mono _ _
      | exact LeO.none _
      | refine LeO.ite ?_ ?_
      | refine LeO.bind ?_ (fun _ => ?_)
set_option maxHeartbeats 8000000 in
set_option maxRecDepth 100000 in
theorem tamisref01_Bit.calls (k : Nat) (a0 : Int) (a1 : Int) (r : Bool) (w : World) (h : tamisref01_Bit.f k a0 a1 = some r) :
    Calls Try.prog 25 #[.int .u64 a0, .int .i64 a1] w fun e w' => e = .returned (.bool r) ∧ Below w.heap.size w w' := by
  have HB := Aside0.mk (Below.refl w.heap.size w)
  have H : (if a1 ≥ 0 then (if a1 < 64 then ((tamisref01_bits.f k a0).bind fun t131 => (if 0 ≤ a1 then (if a1 < (t131.length : Int) then (some ((rd t131 a1) == 1)) else (none)) else (none))) else (some false)) else (some false)) = some r := h
  clear h
  by_cases c3 : a1 ≥ 0
  · rw [if_pos c3] at H
    have c3b0 : decide (0 ≤ a1) = true := decide_eq_true c3
    clear c3
    by_cases c4 : a1 < 64
    · rw [if_pos c4] at H
      have c4b0 : decide (a1 < 64) = true := decide_eq_true c4
      clear c4
      replace H := Option.bind_eq_some_iff.mp H
      obtain ⟨t131, A50, H⟩ := H
      replace H : (if 0 ≤ a1 then (if a1 < (t131.length : Int) then (some ((rd t131 a1) == 1)) else (none)) else (none)) = some r := H
      have A5 := Aside0.mk A50
      clear A50
      by_cases c6 : 0 ≤ a1
      · rw [if_pos c6] at H
        have c6b0 : decide (0 ≤ a1) = true := decide_eq_true c6
        clear c6
        by_cases c7 : a1 < (t131.length : Int)
        · rw [if_pos c7] at H
          have c7b0 : decide (a1 < (t131.length : Int)) = true := decide_eq_true c7
          clear c7
          obtain rfl := Option.some.inj H
          go_enter Try.func25, Try.ntmps25
          go_wp2_with (first | (go_at_call 30; (with_reducible refine (tamisref01_bits.calls k a0 t131 _ A5.out).mono ?_); rintro e w8 ⟨v132, rfl, ho0, hb⟩; have n0_ := Aside0.mk (Kd.R_lower ho0 (below_size (by repeat (first | (with_reducible first | exact HB.out | apply below_alloc | apply pw_below_drewN | apply below_drew1) | exact HB.out)))); have n1_ := Aside0.mk (below_step (by repeat (first | (with_reducible first | exact HB.out | apply below_alloc | apply pw_below_drewN | apply below_drew1) | exact HB.out)) hb); clear HB; have HO133 := n0_; have HB := n1_; clear n0_ n1_; (try clear hb); (try clear hb2); (try clear hk); (try clear hi); (try clear ho0); obtain ⟨Ao9, co9, eo9⟩ := Kd.R_slice HO133.out; subst eo9; have p134 : 0 ≤ (a1 : Int) := of_decide_eq_true (by first | (with_reducible assumption) | assumption); have q134 : a1 < (t131.length : Int) := of_decide_eq_true (by first | (with_reducible assumption) | assumption); obtain ⟨ad134, e134, hx134_0⟩ := Kd.at_int (Kd.R_reads' HO133.out).2.2 a1 p134 q134; cases e134; replace p134 := eq_true p134; replace q134 := eq_true q134))
          go_ret
          exact ⟨by first | rfl | (simp [errW_none, errW_some] <;> rfl) | (simp [*, errW_none, errW_some] <;> rfl), by repeat (first | (with_reducible first | exact HB.out | apply below_alloc | apply pw_below_drewN | apply below_drew1) | exact HB.out)⟩
        · rw [if_neg c7] at H
          exact absurd H (by simp)
      · rw [if_neg c6] at H
        exact absurd H (by simp)
    · rw [if_neg c4] at H
      have c4b0 : decide (a1 < 64) = false := decide_eq_false c4
      clear c4
      obtain rfl := Option.some.inj H
      go_enter Try.func25, Try.ntmps25
      go_wp2
      go_ret
      exact ⟨by first | rfl | (simp [errW_none, errW_some] <;> rfl) | (simp [*, errW_none, errW_some] <;> rfl), by repeat (first | (with_reducible first | exact HB.out | apply below_alloc | apply pw_below_drewN | apply below_drew1) | exact HB.out)⟩
  · rw [if_neg c3] at H
    have c3b0 : decide (0 ≤ a1) = false := decide_eq_false c3
    clear c3
    obtain rfl := Option.some.inj H
    go_enter Try.func25, Try.ntmps25
    go_wp2
    go_ret
    exact ⟨by first | rfl | (simp [errW_none, errW_some] <;> rfl) | (simp [*, errW_none, errW_some] <;> rfl), by repeat (first | (with_reducible first | exact HB.out | apply below_alloc | apply pw_below_drewN | apply below_drew1) | exact HB.out)⟩

/-! ### tamislaw01_WordBits: function 8 -/
mutual
def tamislaw01_WordBits.j0 : Nat → Int → Int → Int → Int → Bool → Option (Bool)
  | 0, _, _, _, _, _ => none
  | k + 1, x0, x1, x2, x7, x37 => if x37 = true then (some false) else (tamislaw01_WordBits.l0 k x0 x1 x2 x7 0 0)
def tamislaw01_WordBits.l0 : Nat → Int → Int → Int → Int → Int → Int → Option (Bool)
  | 0, _, _, _, _, _, _ => none
  | k + 1, x0, x1, x2, x7, x8, x38 => if x38 < 64 then ((word_Bit.f x0 x38).bind fun t143 => (if t143 = true then ((word_Bit.f x7 x38).bind fun t144 => (if x38 ≥ x1 then (if (t144 != (decide (x38 ≤ x2))) = true then (some false) else (tamislaw01_WordBits.l0 k x0 x1 x2 x7 (wrap64 (x8 + 1)) (wrap64 (x38 + 1)))) else (if (t144 != false) = true then (some false) else (tamislaw01_WordBits.l0 k x0 x1 x2 x7 (wrap64 (x8 + 1)) (wrap64 (x38 + 1)))))) else ((word_Bit.f x7 x38).bind fun t145 => (if x38 ≥ x1 then (if (t145 != (decide (x38 ≤ x2))) = true then (some false) else (tamislaw01_WordBits.l0 k x0 x1 x2 x7 x8 (wrap64 (x38 + 1)))) else (if (t145 != false) = true then (some false) else (tamislaw01_WordBits.l0 k x0 x1 x2 x7 x8 (wrap64 (x38 + 1)))))))) else ((word_Ones.f x0).bind fun t142 => (some (x8 == t142)))
end
def tamislaw01_WordBits.f (k : Nat) (a0 : Int) (a1 : Int) (a2 : Int) : Option (Bool) := (word_Span.f a1 a2).bind fun t135 => ((tamislaw01_awake.f).bind fun t136 => (if t136 = true then ((word_Ones.f a0).bind fun t137 => ((tamisref01_Ones.f k a0).bind fun t138 => (if t137 = t138 then ((tamisref01_Span.f k a1 a2).bind fun t139 => (if t135 = t139 then ((word_Bit.f a0 a1).bind fun t140 => ((tamisref01_Bit.f k a0 a1).bind fun t141 => (tamislaw01_WordBits.j0 k a0 a1 a2 t135 (t140 != t141)))) else (tamislaw01_WordBits.j0 k a0 a1 a2 t135 true))) else (tamislaw01_WordBits.j0 k a0 a1 a2 t135 true)))) else (tamislaw01_WordBits.j0 k a0 a1 a2 t135 true)))
theorem tamislaw01_WordBits.mono_l : ∀ k, (∀ y0 y1 y2 y3 y4, LeO (tamislaw01_WordBits.j0 k y0 y1 y2 y3 y4) (tamislaw01_WordBits.j0 (k + 1) y0 y1 y2 y3 y4)) ∧ (∀ y0 y1 y2 y3 y4 y5, LeO (tamislaw01_WordBits.l0 k y0 y1 y2 y3 y4 y5) (tamislaw01_WordBits.l0 (k + 1) y0 y1 y2 y3 y4 y5))
  | 0 => ⟨fun _ _ _ _ _ r h => by simp [tamislaw01_WordBits.j0] at h, fun _ _ _ _ _ _ r h => by simp [tamislaw01_WordBits.l0] at h⟩
  | k + 1 => by
    obtain ⟨ih0, ih1⟩ := tamislaw01_WordBits.mono_l k
    refine ⟨?_, ?_⟩
    · intro y0 y1 y2 y3 y4
      unfold tamislaw01_WordBits.j0
      repeat' first
      | (with_reducible exact ih0 _ _ _ _ _)
      | (with_reducible exact ih1 _ _ _ _ _ _)
      | (with_reducible exact tamisref01_Bit.mono _ _ _)
      | (with_reducible exact tamisref01_Ones.mono _ _)
      | (with_reducible exact tamisref01_Span.mono _ _ _)
      | (with_reducible exact LeO.refl _)
      | (with_reducible exact LeO.none _)
      | (with_reducible refine LeO.ite ?_ ?_)
      | (with_reducible refine LeO.bind ?_ (fun _ => ?_))
      | exact ih0 _ _ _ _ _
      | exact ih1 _ _ _ _ _ _
      | exact tamisref01_Bit.mono _ _ _
      | exact tamisref01_Ones.mono _ _
      | exact tamisref01_Span.mono _ _ _
      | exact LeO.none _
      | refine LeO.ite ?_ ?_
      | refine LeO.bind ?_ (fun _ => ?_)
    · intro y0 y1 y2 y3 y4 y5
      unfold tamislaw01_WordBits.l0
      repeat' first
      | (with_reducible exact ih0 _ _ _ _ _)
      | (with_reducible exact ih1 _ _ _ _ _ _)
      | (with_reducible exact tamisref01_Bit.mono _ _ _)
      | (with_reducible exact tamisref01_Ones.mono _ _)
      | (with_reducible exact tamisref01_Span.mono _ _ _)
      | (with_reducible exact LeO.refl _)
      | (with_reducible exact LeO.none _)
      | (with_reducible refine LeO.ite ?_ ?_)
      | (with_reducible refine LeO.bind ?_ (fun _ => ?_))
      | exact ih0 _ _ _ _ _
      | exact ih1 _ _ _ _ _ _
      | exact tamisref01_Bit.mono _ _ _
      | exact tamisref01_Ones.mono _ _
      | exact tamisref01_Span.mono _ _ _
      | exact LeO.none _
      | refine LeO.ite ?_ ?_
      | refine LeO.bind ?_ (fun _ => ?_)
theorem tamislaw01_WordBits.mono : ∀ a0 a1 a2 k, LeO (tamislaw01_WordBits.f k a0 a1 a2) (tamislaw01_WordBits.f (k + 1) a0 a1 a2) := by
  intro a0 a1 a2 k
  obtain ⟨ih0, ih1⟩ := tamislaw01_WordBits.mono_l k
  unfold tamislaw01_WordBits.f
  repeat' first
      | (with_reducible exact ih0 _ _ _ _ _)
      | (with_reducible exact ih1 _ _ _ _ _ _)
      | (with_reducible exact tamisref01_Bit.mono _ _ _)
      | (with_reducible exact tamisref01_Ones.mono _ _)
      | (with_reducible exact tamisref01_Span.mono _ _ _)
      | (with_reducible exact LeO.refl _)
      | (with_reducible exact LeO.none _)
      | (with_reducible refine LeO.ite ?_ ?_)
      | (with_reducible refine LeO.bind ?_ (fun _ => ?_))
      | exact ih0 _ _ _ _ _
      | exact ih1 _ _ _ _ _ _
      | exact tamisref01_Bit.mono _ _ _
      | exact tamisref01_Ones.mono _ _
      | exact tamisref01_Span.mono _ _ _
      | exact LeO.none _
      | refine LeO.ite ?_ ?_
      | refine LeO.bind ?_ (fun _ => ?_)
set_option maxHeartbeats 8000000 in
set_option maxRecDepth 100000 in
theorem tamislaw01_WordBits.calls (k : Nat) (a0 : Int) (a1 : Int) (a2 : Int) (r : Bool) (w : World) (h : tamislaw01_WordBits.f k a0 a1 a2 = some r) :
    Calls Try.prog 8 #[.int .u64 a0, .int .i64 a1, .int .i64 a2] w fun e w' => e = .returned (.bool r) ∧ Below w.heap.size w w' := by
  have HB := Aside0.mk (Below.refl w.heap.size w)
  have H : ((word_Span.f a1 a2).bind fun t135 => ((tamislaw01_awake.f).bind fun t136 => (if t136 = true then ((word_Ones.f a0).bind fun t137 => ((tamisref01_Ones.f k a0).bind fun t138 => (if t137 = t138 then ((tamisref01_Span.f k a1 a2).bind fun t139 => (if t135 = t139 then ((word_Bit.f a0 a1).bind fun t140 => ((tamisref01_Bit.f k a0 a1).bind fun t141 => (tamislaw01_WordBits.j0 k a0 a1 a2 t135 (t140 != t141)))) else (tamislaw01_WordBits.j0 k a0 a1 a2 t135 true))) else (tamislaw01_WordBits.j0 k a0 a1 a2 t135 true)))) else (tamislaw01_WordBits.j0 k a0 a1 a2 t135 true)))) = some r := h
  clear h
  replace H := Option.bind_eq_some_iff.mp H
  obtain ⟨t135, A40, H⟩ := H
  replace H : ((tamislaw01_awake.f).bind fun t136 => (if t136 = true then ((word_Ones.f a0).bind fun t137 => ((tamisref01_Ones.f k a0).bind fun t138 => (if t137 = t138 then ((tamisref01_Span.f k a1 a2).bind fun t139 => (if t135 = t139 then ((word_Bit.f a0 a1).bind fun t140 => ((tamisref01_Bit.f k a0 a1).bind fun t141 => (tamislaw01_WordBits.j0 k a0 a1 a2 t135 (t140 != t141)))) else (tamislaw01_WordBits.j0 k a0 a1 a2 t135 true))) else (tamislaw01_WordBits.j0 k a0 a1 a2 t135 true)))) else (tamislaw01_WordBits.j0 k a0 a1 a2 t135 true))) = some r := H
  have A4 := Aside0.mk A40
  clear A40
  have HC5 := Aside0.mk H
  clear H
  go_enter Try.func8, Try.ntmps8
  go_upto_region 2 with (first | ((with_reducible refine gate_callee (f := 18) rfl ?_); refine goesL_ (some 12) rfl rfl Try.func18 (by kernel_rfl) rfl #[.int .i64 a1, .int .i64 a2] rfl (by (try simp only [List.map_toArray, List.map_cons, List.map_nil]); first | done | rfl | (simp only [List.length_drop, List.length_take]; rfl)) ?_; (with_reducible refine (word_Span.calls a1 a2 t135 _ A4.out).mono ?_); rintro e w' ⟨rfl, ⟨nd, rfl⟩⟩; refine ⟨_, rfl, ?_⟩))
  (try simp only [Act.put, List.setIfInBounds_toArray, List.set_cons_zero, List.set_cons_succ])
  go_cut [37] (fun v37 wc => ∃ (kq : Nat) (x37_4 : Bool), v37 = .bool x37_4 ∧ Aside0 (tamislaw01_WordBits.j0 kq a0 a1 a2 t135 x37_4 = some r) ∧ Aside0 (kq ≤ k) ∧ Aside0 (Below w.heap.size w wc))
  case first =>
    have H := HC5.out
    clear HC5
    replace H := Option.bind_eq_some_iff.mp H
    obtain ⟨t136, A60, H⟩ := H
    replace H : (if t136 = true then ((word_Ones.f a0).bind fun t137 => ((tamisref01_Ones.f k a0).bind fun t138 => (if t137 = t138 then ((tamisref01_Span.f k a1 a2).bind fun t139 => (if t135 = t139 then ((word_Bit.f a0 a1).bind fun t140 => ((tamisref01_Bit.f k a0 a1).bind fun t141 => (tamislaw01_WordBits.j0 k a0 a1 a2 t135 (t140 != t141)))) else (tamislaw01_WordBits.j0 k a0 a1 a2 t135 true))) else (tamislaw01_WordBits.j0 k a0 a1 a2 t135 true)))) else (tamislaw01_WordBits.j0 k a0 a1 a2 t135 true)) = some r := H
    have A6 := Aside0.mk A60
    clear A60
    by_cases c7 : t136 = true
    · subst c7
      have H1 : ((word_Ones.f a0).bind fun t137 => ((tamisref01_Ones.f k a0).bind fun t138 => (if t137 = t138 then ((tamisref01_Span.f k a1 a2).bind fun t139 => (if t135 = t139 then ((word_Bit.f a0 a1).bind fun t140 => ((tamisref01_Bit.f k a0 a1).bind fun t141 => (tamislaw01_WordBits.j0 k a0 a1 a2 t135 (t140 != t141)))) else (tamislaw01_WordBits.j0 k a0 a1 a2 t135 true))) else (tamislaw01_WordBits.j0 k a0 a1 a2 t135 true)))) = some r := by rw [if_pos rfl] at H; exact H
      clear H
      have H := H1
      clear H1
      replace H := Option.bind_eq_some_iff.mp H
      obtain ⟨t137, A80, H⟩ := H
      replace H : ((tamisref01_Ones.f k a0).bind fun t138 => (if t137 = t138 then ((tamisref01_Span.f k a1 a2).bind fun t139 => (if t135 = t139 then ((word_Bit.f a0 a1).bind fun t140 => ((tamisref01_Bit.f k a0 a1).bind fun t141 => (tamislaw01_WordBits.j0 k a0 a1 a2 t135 (t140 != t141)))) else (tamislaw01_WordBits.j0 k a0 a1 a2 t135 true))) else (tamislaw01_WordBits.j0 k a0 a1 a2 t135 true))) = some r := H
      have A8 := Aside0.mk A80
      clear A80
      replace H := Option.bind_eq_some_iff.mp H
      obtain ⟨t138, A90, H⟩ := H
      replace H : (if t137 = t138 then ((tamisref01_Span.f k a1 a2).bind fun t139 => (if t135 = t139 then ((word_Bit.f a0 a1).bind fun t140 => ((tamisref01_Bit.f k a0 a1).bind fun t141 => (tamislaw01_WordBits.j0 k a0 a1 a2 t135 (t140 != t141)))) else (tamislaw01_WordBits.j0 k a0 a1 a2 t135 true))) else (tamislaw01_WordBits.j0 k a0 a1 a2 t135 true)) = some r := H
      have A9 := Aside0.mk A90
      clear A90
      by_cases c10 : t137 = t138
      · rw [if_pos c10] at H
        have c10b0 : (t137 == t138) = true := beq_iff_eq.mpr c10
        have c10b1 : (t137 != t138) = false := bne_eq_false_iff_eq.mpr c10
        clear c10
        (first | rw [c10b0] | (simp only [i64_w, i32_w]; rw [c10b0]) | skip)
        replace H := Option.bind_eq_some_iff.mp H
        obtain ⟨t139, A110, H⟩ := H
        replace H : (if t135 = t139 then ((word_Bit.f a0 a1).bind fun t140 => ((tamisref01_Bit.f k a0 a1).bind fun t141 => (tamislaw01_WordBits.j0 k a0 a1 a2 t135 (t140 != t141)))) else (tamislaw01_WordBits.j0 k a0 a1 a2 t135 true)) = some r := H
        have A11 := Aside0.mk A110
        clear A110
        by_cases c12 : t135 = t139
        · rw [if_pos c12] at H
          have c12b0 : (t135 == t139) = true := beq_iff_eq.mpr c12
          have c12b1 : (t135 != t139) = false := bne_eq_false_iff_eq.mpr c12
          clear c12
          replace H := Option.bind_eq_some_iff.mp H
          obtain ⟨t140, A130, H⟩ := H
          replace H : ((tamisref01_Bit.f k a0 a1).bind fun t141 => (tamislaw01_WordBits.j0 k a0 a1 a2 t135 (t140 != t141))) = some r := H
          have A13 := Aside0.mk A130
          clear A130
          replace H := Option.bind_eq_some_iff.mp H
          obtain ⟨t141, A140, H⟩ := H
          replace H : (tamislaw01_WordBits.j0 k a0 a1 a2 t135 (t140 != t141)) = some r := H
          have A14 := Aside0.mk A140
          clear A140
          have H' := Aside0.mk H
          clear H
          go_wp2_with (first | ((with_reducible refine gate_callee (f := 14) rfl ?_); refine goesL_ (some 13) rfl rfl Try.func14 (by kernel_rfl) rfl #[] rfl (by (try simp only [List.map_toArray, List.map_cons, List.map_nil]); first | done | rfl | (simp only [List.length_drop, List.length_take]; rfl)) ?_; (with_reducible refine (tamislaw01_awake.calls  true _ A6.out).mono ?_); rintro e w' ⟨rfl, ⟨nd, rfl⟩⟩; refine ⟨_, rfl, ?_⟩) | (go_at_call 21; (with_reducible refine (word_Ones.calls a0 t137 _ A8.out).mono ?_); rintro e w' ⟨rfl, ⟨nd, rfl⟩⟩) | (go_at_call 22; (with_reducible refine (tamisref01_Ones.calls k a0 t138 _ A9.out).mono ?_); rintro e w15 ⟨rfl, hb⟩; have n0_ := Aside0.mk (below_step (by repeat (first | (with_reducible first | exact HB.out | apply below_alloc | apply pw_below_drewN | apply below_drew1) | exact HB.out)) hb); clear HB; have HB := n0_; clear n0_; (try clear hb); (try clear hb2); (try clear hk); (try clear hi)) | (go_at_call 23; (with_reducible refine (tamisref01_Span.calls k a1 a2 t139 _ A11.out).mono ?_); rintro e w' ⟨rfl, ⟨nd, rfl⟩⟩) | (go_at_call 24; (with_reducible refine (word_Bit.calls a0 a1 t140 _ A13.out).mono ?_); rintro e w' ⟨rfl, ⟨nd, rfl⟩⟩) | (go_at_call 25; (with_reducible refine (tamisref01_Bit.calls k a0 a1 t141 _ A14.out).mono ?_); rintro e w16 ⟨rfl, hb⟩; have n0_ := Aside0.mk (below_step (by repeat (first | (with_reducible first | exact HB.out | apply below_alloc | apply pw_below_drewN | apply below_drew1) | exact HB.out)) hb); clear HB; have HB := n0_; clear n0_; (try clear hb); (try clear hb2); (try clear hk); (try clear hi)))
          go_meet
          case rel => exact ⟨_, ((t140 != t141)), (by first | rfl | (simp; done) | (simp [*]; done)), H', ⟨by first | omega | exact Nat.le_refl _⟩, ⟨by repeat (first | (with_reducible first | exact HB.out | apply below_alloc | apply pw_below_drewN | apply below_drew1) | exact HB.out)⟩⟩
        · rw [if_neg c12] at H
          have c12b0 : (t135 == t139) = false := beq_eq_false_iff_ne.mpr c12
          have c12b1 : (t135 != t139) = true := bne_iff_ne.mpr c12
          have H' := Aside0.mk H
          clear H
          go_wp2_with (first | ((with_reducible refine gate_callee (f := 14) rfl ?_); refine goesL_ (some 13) rfl rfl Try.func14 (by kernel_rfl) rfl #[] rfl (by (try simp only [List.map_toArray, List.map_cons, List.map_nil]); first | done | rfl | (simp only [List.length_drop, List.length_take]; rfl)) ?_; (with_reducible refine (tamislaw01_awake.calls  true _ A6.out).mono ?_); rintro e w' ⟨rfl, ⟨nd, rfl⟩⟩; refine ⟨_, rfl, ?_⟩) | (go_at_call 21; (with_reducible refine (word_Ones.calls a0 t137 _ A8.out).mono ?_); rintro e w' ⟨rfl, ⟨nd, rfl⟩⟩) | (go_at_call 22; (with_reducible refine (tamisref01_Ones.calls k a0 t138 _ A9.out).mono ?_); rintro e w17 ⟨rfl, hb⟩; have n0_ := Aside0.mk (below_step (by repeat (first | (with_reducible first | exact HB.out | apply below_alloc | apply pw_below_drewN | apply below_drew1) | exact HB.out)) hb); clear HB; have HB := n0_; clear n0_; (try clear hb); (try clear hb2); (try clear hk); (try clear hi)) | (go_at_call 23; (with_reducible refine (tamisref01_Span.calls k a1 a2 t139 _ A11.out).mono ?_); rintro e w' ⟨rfl, ⟨nd, rfl⟩⟩))
          go_meet
          case rel => exact ⟨_, (true), (by first | rfl | (simp; done) | (simp [*]; done)), H', ⟨by first | omega | exact Nat.le_refl _⟩, ⟨by repeat (first | (with_reducible first | exact HB.out | apply below_alloc | apply pw_below_drewN | apply below_drew1) | exact HB.out)⟩⟩
      · rw [if_neg c10] at H
        have c10b0 : (t137 == t138) = false := beq_eq_false_iff_ne.mpr c10
        have c10b1 : (t137 != t138) = true := bne_iff_ne.mpr c10
        (first | rw [c10b0] | (simp only [i64_w, i32_w]; rw [c10b0]) | skip)
        have H' := Aside0.mk H
        clear H
        go_wp2_with (first | ((with_reducible refine gate_callee (f := 14) rfl ?_); refine goesL_ (some 13) rfl rfl Try.func14 (by kernel_rfl) rfl #[] rfl (by (try simp only [List.map_toArray, List.map_cons, List.map_nil]); first | done | rfl | (simp only [List.length_drop, List.length_take]; rfl)) ?_; (with_reducible refine (tamislaw01_awake.calls  true _ A6.out).mono ?_); rintro e w' ⟨rfl, ⟨nd, rfl⟩⟩; refine ⟨_, rfl, ?_⟩) | (go_at_call 21; (with_reducible refine (word_Ones.calls a0 t137 _ A8.out).mono ?_); rintro e w' ⟨rfl, ⟨nd, rfl⟩⟩) | (go_at_call 22; (with_reducible refine (tamisref01_Ones.calls k a0 t138 _ A9.out).mono ?_); rintro e w18 ⟨rfl, hb⟩; have n0_ := Aside0.mk (below_step (by repeat (first | (with_reducible first | exact HB.out | apply below_alloc | apply pw_below_drewN | apply below_drew1) | exact HB.out)) hb); clear HB; have HB := n0_; clear n0_; (try clear hb); (try clear hb2); (try clear hk); (try clear hi)))
        go_meet
        case rel => exact ⟨_, (true), (by first | rfl | (simp; done) | (simp [*]; done)), H', ⟨by first | omega | exact Nat.le_refl _⟩, ⟨by repeat (first | (with_reducible first | exact HB.out | apply below_alloc | apply pw_below_drewN | apply below_drew1) | exact HB.out)⟩⟩
    · replace c7 := Bool.eq_false_iff.mpr c7
      subst c7
      have H1 : (tamislaw01_WordBits.j0 k a0 a1 a2 t135 true) = some r := by rw [if_neg (show ¬ (false = true) by decide)] at H; exact H
      clear H
      have H := H1
      clear H1
      have H' := Aside0.mk H
      clear H
      go_wp2_with (first | ((with_reducible refine gate_callee (f := 14) rfl ?_); refine goesL_ (some 13) rfl rfl Try.func14 (by kernel_rfl) rfl #[] rfl (by (try simp only [List.map_toArray, List.map_cons, List.map_nil]); first | done | rfl | (simp only [List.length_drop, List.length_take]; rfl)) ?_; (with_reducible refine (tamislaw01_awake.calls  false _ A6.out).mono ?_); rintro e w' ⟨rfl, ⟨nd, rfl⟩⟩; refine ⟨_, rfl, ?_⟩))
      go_meet
      case rel => exact ⟨_, (true), (by first | rfl | (simp; done) | (simp [*]; done)), H', ⟨by first | omega | exact Nat.le_refl _⟩, ⟨by repeat (first | (with_reducible first | exact HB.out | apply below_alloc | apply pw_below_drewN | apply below_drew1) | exact HB.out)⟩⟩
  case rest =>
    clear HC5
    try clear c1
    try clear p2
    try clear c7
    try clear c8
    try clear c10
    try clear c10b0
    try clear c10b1
    try clear c12
    try clear c12b0
    try clear c12b1
    try clear c14
    try clear c18
    obtain ⟨kq, x37_4, rfl, HA, HJ4, HB⟩ := hcut
    cases kq with
    | zero => exact absurd HA.out (by simp [tamislaw01_WordBits.j0])
    | succ kj4 =>
      have H := HA.out
      clear HA
      simp only [tamislaw01_WordBits.j0] at H
      by_cases c19 : x37_4 = true
      · subst c19
        have H1 : (some false) = some r := by rw [if_pos rfl] at H; exact H
        clear H
        have H := H1
        clear H1
        obtain rfl := Option.some.inj H
        go_wp2
        go_ret
        exact ⟨by first | rfl | (simp [errW_none, errW_some] <;> rfl) | (simp [*, errW_none, errW_some] <;> rfl), by repeat (first | (with_reducible first | exact HB.out | apply below_alloc | apply pw_below_drewN | apply below_drew1) | exact HB.out)⟩
      · replace c19 := Bool.eq_false_iff.mpr c19
        subst c19
        have H1 : (tamislaw01_WordBits.l0 kj4 a0 a1 a2 t135 0 0) = some r := by rw [if_neg (show ¬ (false = true) by decide)] at H; exact H
        clear H
        have H := H1
        clear H1
        have H' := Aside0.mk H
        clear H
        go_wp2
        go_loopg [8, 38] kj4 (fun kq v8 v38 w' => ∃ (x8_2 : Int) (x38_2 : Int), v8 = .int .i64 x8_2 ∧ v38 = .int .i64 x38_2 ∧ Aside0 (tamislaw01_WordBits.l0 kq a0 a1 a2 t135 x8_2 x38_2 = some r) ∧ Aside0 (kq ≤ kj4) ∧ Aside0 (Below w.heap.size w w'))
        case atStart => exact ⟨(0), (0), (by first | rfl | (simp; done) | (simp [*]; done)), (by first | rfl | (simp; done) | (simp [*]; done)), H', ⟨Nat.le_refl _⟩, ⟨by repeat (first | (with_reducible first | exact HB.out | apply below_alloc | apply pw_below_drewN | apply below_drew1) | exact HB.out)⟩⟩
        case round =>
          clear H'
          try clear c1
          try clear p2
          try clear c7
          try clear c8
          try clear c10
          try clear c10b0
          try clear c10b1
          try clear c12
          try clear c12b0
          try clear c12b1
          try clear c14
          try clear c18
          try clear c19
          try clear p2
          obtain ⟨x8_2, x38_2, rfl, rfl, HA, HK2, HB⟩ := hrel
          cases gk with
          | zero => exact absurd HA.out (by simp [tamislaw01_WordBits.l0])
          | succ k2 =>
            have H := HA.out
            clear HA
            simp only [tamislaw01_WordBits.l0] at H
            by_cases c20 : x38_2 < 64
            · rw [if_pos c20] at H
              have c20b0 : decide (x38_2 < 64) = true := decide_eq_true c20
              clear c20
              replace H := Option.bind_eq_some_iff.mp H
              obtain ⟨t143, A210, H⟩ := H
              replace H : (if t143 = true then ((word_Bit.f t135 x38_2).bind fun t144 => (if x38_2 ≥ a1 then (if (t144 != (decide (x38_2 ≤ a2))) = true then (some false) else (tamislaw01_WordBits.l0 k2 a0 a1 a2 t135 (wrap64 (x8_2 + 1)) (wrap64 (x38_2 + 1)))) else (if (t144 != false) = true then (some false) else (tamislaw01_WordBits.l0 k2 a0 a1 a2 t135 (wrap64 (x8_2 + 1)) (wrap64 (x38_2 + 1)))))) else ((word_Bit.f t135 x38_2).bind fun t145 => (if x38_2 ≥ a1 then (if (t145 != (decide (x38_2 ≤ a2))) = true then (some false) else (tamislaw01_WordBits.l0 k2 a0 a1 a2 t135 x8_2 (wrap64 (x38_2 + 1)))) else (if (t145 != false) = true then (some false) else (tamislaw01_WordBits.l0 k2 a0 a1 a2 t135 x8_2 (wrap64 (x38_2 + 1))))))) = some r := H
              have A21 := Aside0.mk A210
              clear A210
              by_cases c22 : t143 = true
              · subst c22
                have H1 : ((word_Bit.f t135 x38_2).bind fun t144 => (if x38_2 ≥ a1 then (if (t144 != (decide (x38_2 ≤ a2))) = true then (some false) else (tamislaw01_WordBits.l0 k2 a0 a1 a2 t135 (wrap64 (x8_2 + 1)) (wrap64 (x38_2 + 1)))) else (if (t144 != false) = true then (some false) else (tamislaw01_WordBits.l0 k2 a0 a1 a2 t135 (wrap64 (x8_2 + 1)) (wrap64 (x38_2 + 1)))))) = some r := by rw [if_pos rfl] at H; exact H
                clear H
                have H := H1
                clear H1
                replace H := Option.bind_eq_some_iff.mp H
                obtain ⟨t144, A230, H⟩ := H
                replace H : (if x38_2 ≥ a1 then (if (t144 != (decide (x38_2 ≤ a2))) = true then (some false) else (tamislaw01_WordBits.l0 k2 a0 a1 a2 t135 (wrap64 (x8_2 + 1)) (wrap64 (x38_2 + 1)))) else (if (t144 != false) = true then (some false) else (tamislaw01_WordBits.l0 k2 a0 a1 a2 t135 (wrap64 (x8_2 + 1)) (wrap64 (x38_2 + 1))))) = some r := H
                have A23 := Aside0.mk A230
                clear A230
                by_cases c24 : x38_2 ≥ a1
                · rw [if_pos c24] at H
                  have c24b0 : decide (a1 ≤ x38_2) = true := decide_eq_true c24
                  clear c24
                  by_cases c25 : (t144 != (decide (x38_2 ≤ a2))) = true
                  · rw [if_pos c25] at H
                    have c25b0 : (t144 != (decide (x38_2 ≤ a2))) = true := c25
                    (try (have c25b1 : decide (t144 = (decide (x38_2 ≤ a2))) = false := by simpa using c25))
                    (try (have c25b2 : (t144 == (decide (x38_2 ≤ a2))) = false := by simpa using c25))
                    (try (have c25b3 : ¬ (t144 = (decide (x38_2 ≤ a2))) := by simpa using c25))
                    clear c25
                    obtain rfl := Option.some.inj H
                    go_wp2_with (first | ((with_reducible refine gate_callee (f := 24) rfl ?_); refine goesL_ (some 43) rfl rfl Try.func24 (by kernel_rfl) rfl #[.int .u64 a0, .int .i64 x38_2] rfl (by (try simp only [List.map_toArray, List.map_cons, List.map_nil]); first | done | rfl | (simp only [List.length_drop, List.length_take]; rfl)) ?_; (with_reducible refine (word_Bit.calls a0 x38_2 true _ A21.out).mono ?_); rintro e w' ⟨rfl, ⟨nd, rfl⟩⟩; refine ⟨_, rfl, ?_⟩) | ((with_reducible refine gate_callee (f := 24) rfl ?_); refine goesL_ (some 48) rfl rfl Try.func24 (by kernel_rfl) rfl #[.int .u64 t135, .int .i64 x38_2] rfl (by (try simp only [List.map_toArray, List.map_cons, List.map_nil]); first | done | rfl | (simp only [List.length_drop, List.length_take]; rfl)) ?_; (with_reducible refine (word_Bit.calls t135 x38_2 t144 _ A23.out).mono ?_); rintro e w' ⟨rfl, ⟨nd, rfl⟩⟩; refine ⟨_, rfl, ?_⟩))
                    go_ret
                    exact ⟨by first | rfl | (simp [errW_none, errW_some] <;> rfl) | (simp [*, errW_none, errW_some] <;> rfl), by repeat (first | (with_reducible first | exact HB.out | apply below_alloc | apply pw_below_drewN | apply below_drew1) | exact HB.out)⟩
                  · rw [if_neg c25] at H
                    have c25b0 : (t144 != (decide (x38_2 ≤ a2))) = false := by simpa using c25
                    (try (have c25b1 : decide (t144 = (decide (x38_2 ≤ a2))) = true := by simpa using c25))
                    (try (have c25b2 : (t144 == (decide (x38_2 ≤ a2))) = true := by simpa using c25))
                    clear c25
                    have H' := Aside0.mk H
                    clear H
                    go_wp2_with (first | ((with_reducible refine gate_callee (f := 24) rfl ?_); refine goesL_ (some 43) rfl rfl Try.func24 (by kernel_rfl) rfl #[.int .u64 a0, .int .i64 x38_2] rfl (by (try simp only [List.map_toArray, List.map_cons, List.map_nil]); first | done | rfl | (simp only [List.length_drop, List.length_take]; rfl)) ?_; (with_reducible refine (word_Bit.calls a0 x38_2 true _ A21.out).mono ?_); rintro e w' ⟨rfl, ⟨nd, rfl⟩⟩; refine ⟨_, rfl, ?_⟩) | ((with_reducible refine gate_callee (f := 24) rfl ?_); refine goesL_ (some 48) rfl rfl Try.func24 (by kernel_rfl) rfl #[.int .u64 t135, .int .i64 x38_2] rfl (by (try simp only [List.map_toArray, List.map_cons, List.map_nil]); first | done | rfl | (simp only [List.length_drop, List.length_take]; rfl)) ?_; (with_reducible refine (word_Bit.calls t135 x38_2 t144 _ A23.out).mono ?_); rintro e w' ⟨rfl, ⟨nd, rfl⟩⟩; refine ⟨_, rfl, ?_⟩))
                    go_roundg k2
                    case measure => have := HJ4.out; have := HK2.out; omega
                    case rel => exact ⟨(wrap64 (x8_2 + 1)), (wrap64 (x38_2 + 1)), (by first | rfl | (simp; done) | (simp [*]; done)), (by first | rfl | (simp; done) | (simp [*]; done)), H', ⟨by have := HJ4.out; have := HK2.out; omega⟩, ⟨by repeat (first | (with_reducible first | exact HB.out | apply below_alloc | apply pw_below_drewN | apply below_drew1) | exact HB.out)⟩⟩
                · rw [if_neg c24] at H
                  have c24b0 : decide (a1 ≤ x38_2) = false := decide_eq_false c24
                  clear c24
                  by_cases c26 : (t144 != false) = true
                  · rw [if_pos c26] at H
                    have c26b0 : (t144 != false) = true := c26
                    (try (have c26b1 : decide (t144 = false) = false := by simpa using c26))
                    (try (have c26b2 : (t144 == false) = false := by simpa using c26))
                    (try (have c26b3 : ¬ (t144 = false) := by simpa using c26))
                    clear c26
                    obtain rfl := Option.some.inj H
                    go_wp2_with (first | ((with_reducible refine gate_callee (f := 24) rfl ?_); refine goesL_ (some 43) rfl rfl Try.func24 (by kernel_rfl) rfl #[.int .u64 a0, .int .i64 x38_2] rfl (by (try simp only [List.map_toArray, List.map_cons, List.map_nil]); first | done | rfl | (simp only [List.length_drop, List.length_take]; rfl)) ?_; (with_reducible refine (word_Bit.calls a0 x38_2 true _ A21.out).mono ?_); rintro e w' ⟨rfl, ⟨nd, rfl⟩⟩; refine ⟨_, rfl, ?_⟩) | ((with_reducible refine gate_callee (f := 24) rfl ?_); refine goesL_ (some 48) rfl rfl Try.func24 (by kernel_rfl) rfl #[.int .u64 t135, .int .i64 x38_2] rfl (by (try simp only [List.map_toArray, List.map_cons, List.map_nil]); first | done | rfl | (simp only [List.length_drop, List.length_take]; rfl)) ?_; (with_reducible refine (word_Bit.calls t135 x38_2 t144 _ A23.out).mono ?_); rintro e w' ⟨rfl, ⟨nd, rfl⟩⟩; refine ⟨_, rfl, ?_⟩))
                    go_ret
                    exact ⟨by first | rfl | (simp [errW_none, errW_some] <;> rfl) | (simp [*, errW_none, errW_some] <;> rfl), by repeat (first | (with_reducible first | exact HB.out | apply below_alloc | apply pw_below_drewN | apply below_drew1) | exact HB.out)⟩
                  · rw [if_neg c26] at H
                    have c26b0 : (t144 != false) = false := by simpa using c26
                    (try (have c26b1 : decide (t144 = false) = true := by simpa using c26))
                    (try (have c26b2 : (t144 == false) = true := by simpa using c26))
                    clear c26
                    have H' := Aside0.mk H
                    clear H
                    go_wp2_with (first | ((with_reducible refine gate_callee (f := 24) rfl ?_); refine goesL_ (some 43) rfl rfl Try.func24 (by kernel_rfl) rfl #[.int .u64 a0, .int .i64 x38_2] rfl (by (try simp only [List.map_toArray, List.map_cons, List.map_nil]); first | done | rfl | (simp only [List.length_drop, List.length_take]; rfl)) ?_; (with_reducible refine (word_Bit.calls a0 x38_2 true _ A21.out).mono ?_); rintro e w' ⟨rfl, ⟨nd, rfl⟩⟩; refine ⟨_, rfl, ?_⟩) | ((with_reducible refine gate_callee (f := 24) rfl ?_); refine goesL_ (some 48) rfl rfl Try.func24 (by kernel_rfl) rfl #[.int .u64 t135, .int .i64 x38_2] rfl (by (try simp only [List.map_toArray, List.map_cons, List.map_nil]); first | done | rfl | (simp only [List.length_drop, List.length_take]; rfl)) ?_; (with_reducible refine (word_Bit.calls t135 x38_2 t144 _ A23.out).mono ?_); rintro e w' ⟨rfl, ⟨nd, rfl⟩⟩; refine ⟨_, rfl, ?_⟩))
                    go_roundg k2
                    case measure => have := HJ4.out; have := HK2.out; omega
                    case rel => exact ⟨(wrap64 (x8_2 + 1)), (wrap64 (x38_2 + 1)), (by first | rfl | (simp; done) | (simp [*]; done)), (by first | rfl | (simp; done) | (simp [*]; done)), H', ⟨by have := HJ4.out; have := HK2.out; omega⟩, ⟨by repeat (first | (with_reducible first | exact HB.out | apply below_alloc | apply pw_below_drewN | apply below_drew1) | exact HB.out)⟩⟩
              · replace c22 := Bool.eq_false_iff.mpr c22
                subst c22
                have H1 : ((word_Bit.f t135 x38_2).bind fun t145 => (if x38_2 ≥ a1 then (if (t145 != (decide (x38_2 ≤ a2))) = true then (some false) else (tamislaw01_WordBits.l0 k2 a0 a1 a2 t135 x8_2 (wrap64 (x38_2 + 1)))) else (if (t145 != false) = true then (some false) else (tamislaw01_WordBits.l0 k2 a0 a1 a2 t135 x8_2 (wrap64 (x38_2 + 1)))))) = some r := by rw [if_neg (show ¬ (false = true) by decide)] at H; exact H
                clear H
                have H := H1
                clear H1
                replace H := Option.bind_eq_some_iff.mp H
                obtain ⟨t145, A270, H⟩ := H
                replace H : (if x38_2 ≥ a1 then (if (t145 != (decide (x38_2 ≤ a2))) = true then (some false) else (tamislaw01_WordBits.l0 k2 a0 a1 a2 t135 x8_2 (wrap64 (x38_2 + 1)))) else (if (t145 != false) = true then (some false) else (tamislaw01_WordBits.l0 k2 a0 a1 a2 t135 x8_2 (wrap64 (x38_2 + 1))))) = some r := H
                have A27 := Aside0.mk A270
                clear A270
                by_cases c28 : x38_2 ≥ a1
                · rw [if_pos c28] at H
                  have c28b0 : decide (a1 ≤ x38_2) = true := decide_eq_true c28
                  clear c28
                  by_cases c29 : (t145 != (decide (x38_2 ≤ a2))) = true
                  · rw [if_pos c29] at H
                    have c29b0 : (t145 != (decide (x38_2 ≤ a2))) = true := c29
                    (try (have c29b1 : decide (t145 = (decide (x38_2 ≤ a2))) = false := by simpa using c29))
                    (try (have c29b2 : (t145 == (decide (x38_2 ≤ a2))) = false := by simpa using c29))
                    (try (have c29b3 : ¬ (t145 = (decide (x38_2 ≤ a2))) := by simpa using c29))
                    clear c29
                    obtain rfl := Option.some.inj H
                    go_wp2_with (first | ((with_reducible refine gate_callee (f := 24) rfl ?_); refine goesL_ (some 43) rfl rfl Try.func24 (by kernel_rfl) rfl #[.int .u64 a0, .int .i64 x38_2] rfl (by (try simp only [List.map_toArray, List.map_cons, List.map_nil]); first | done | rfl | (simp only [List.length_drop, List.length_take]; rfl)) ?_; (with_reducible refine (word_Bit.calls a0 x38_2 false _ A21.out).mono ?_); rintro e w' ⟨rfl, ⟨nd, rfl⟩⟩; refine ⟨_, rfl, ?_⟩) | ((with_reducible refine gate_callee (f := 24) rfl ?_); refine goesL_ (some 48) rfl rfl Try.func24 (by kernel_rfl) rfl #[.int .u64 t135, .int .i64 x38_2] rfl (by (try simp only [List.map_toArray, List.map_cons, List.map_nil]); first | done | rfl | (simp only [List.length_drop, List.length_take]; rfl)) ?_; (with_reducible refine (word_Bit.calls t135 x38_2 t145 _ A27.out).mono ?_); rintro e w' ⟨rfl, ⟨nd, rfl⟩⟩; refine ⟨_, rfl, ?_⟩))
                    go_ret
                    exact ⟨by first | rfl | (simp [errW_none, errW_some] <;> rfl) | (simp [*, errW_none, errW_some] <;> rfl), by repeat (first | (with_reducible first | exact HB.out | apply below_alloc | apply pw_below_drewN | apply below_drew1) | exact HB.out)⟩
                  · rw [if_neg c29] at H
                    have c29b0 : (t145 != (decide (x38_2 ≤ a2))) = false := by simpa using c29
                    (try (have c29b1 : decide (t145 = (decide (x38_2 ≤ a2))) = true := by simpa using c29))
                    (try (have c29b2 : (t145 == (decide (x38_2 ≤ a2))) = true := by simpa using c29))
                    clear c29
                    have H' := Aside0.mk H
                    clear H
                    go_wp2_with (first | ((with_reducible refine gate_callee (f := 24) rfl ?_); refine goesL_ (some 43) rfl rfl Try.func24 (by kernel_rfl) rfl #[.int .u64 a0, .int .i64 x38_2] rfl (by (try simp only [List.map_toArray, List.map_cons, List.map_nil]); first | done | rfl | (simp only [List.length_drop, List.length_take]; rfl)) ?_; (with_reducible refine (word_Bit.calls a0 x38_2 false _ A21.out).mono ?_); rintro e w' ⟨rfl, ⟨nd, rfl⟩⟩; refine ⟨_, rfl, ?_⟩) | ((with_reducible refine gate_callee (f := 24) rfl ?_); refine goesL_ (some 48) rfl rfl Try.func24 (by kernel_rfl) rfl #[.int .u64 t135, .int .i64 x38_2] rfl (by (try simp only [List.map_toArray, List.map_cons, List.map_nil]); first | done | rfl | (simp only [List.length_drop, List.length_take]; rfl)) ?_; (with_reducible refine (word_Bit.calls t135 x38_2 t145 _ A27.out).mono ?_); rintro e w' ⟨rfl, ⟨nd, rfl⟩⟩; refine ⟨_, rfl, ?_⟩))
                    go_roundg k2
                    case measure => have := HJ4.out; have := HK2.out; omega
                    case rel => exact ⟨(x8_2), (wrap64 (x38_2 + 1)), (by first | rfl | (simp; done) | (simp [*]; done)), (by first | rfl | (simp; done) | (simp [*]; done)), H', ⟨by have := HJ4.out; have := HK2.out; omega⟩, ⟨by repeat (first | (with_reducible first | exact HB.out | apply below_alloc | apply pw_below_drewN | apply below_drew1) | exact HB.out)⟩⟩
                · rw [if_neg c28] at H
                  have c28b0 : decide (a1 ≤ x38_2) = false := decide_eq_false c28
                  clear c28
                  by_cases c30 : (t145 != false) = true
                  · rw [if_pos c30] at H
                    have c30b0 : (t145 != false) = true := c30
                    (try (have c30b1 : decide (t145 = false) = false := by simpa using c30))
                    (try (have c30b2 : (t145 == false) = false := by simpa using c30))
                    (try (have c30b3 : ¬ (t145 = false) := by simpa using c30))
                    clear c30
                    obtain rfl := Option.some.inj H
                    go_wp2_with (first | ((with_reducible refine gate_callee (f := 24) rfl ?_); refine goesL_ (some 43) rfl rfl Try.func24 (by kernel_rfl) rfl #[.int .u64 a0, .int .i64 x38_2] rfl (by (try simp only [List.map_toArray, List.map_cons, List.map_nil]); first | done | rfl | (simp only [List.length_drop, List.length_take]; rfl)) ?_; (with_reducible refine (word_Bit.calls a0 x38_2 false _ A21.out).mono ?_); rintro e w' ⟨rfl, ⟨nd, rfl⟩⟩; refine ⟨_, rfl, ?_⟩) | ((with_reducible refine gate_callee (f := 24) rfl ?_); refine goesL_ (some 48) rfl rfl Try.func24 (by kernel_rfl) rfl #[.int .u64 t135, .int .i64 x38_2] rfl (by (try simp only [List.map_toArray, List.map_cons, List.map_nil]); first | done | rfl | (simp only [List.length_drop, List.length_take]; rfl)) ?_; (with_reducible refine (word_Bit.calls t135 x38_2 t145 _ A27.out).mono ?_); rintro e w' ⟨rfl, ⟨nd, rfl⟩⟩; refine ⟨_, rfl, ?_⟩))
                    go_ret
                    exact ⟨by first | rfl | (simp [errW_none, errW_some] <;> rfl) | (simp [*, errW_none, errW_some] <;> rfl), by repeat (first | (with_reducible first | exact HB.out | apply below_alloc | apply pw_below_drewN | apply below_drew1) | exact HB.out)⟩
                  · rw [if_neg c30] at H
                    have c30b0 : (t145 != false) = false := by simpa using c30
                    (try (have c30b1 : decide (t145 = false) = true := by simpa using c30))
                    (try (have c30b2 : (t145 == false) = true := by simpa using c30))
                    clear c30
                    have H' := Aside0.mk H
                    clear H
                    go_wp2_with (first | ((with_reducible refine gate_callee (f := 24) rfl ?_); refine goesL_ (some 43) rfl rfl Try.func24 (by kernel_rfl) rfl #[.int .u64 a0, .int .i64 x38_2] rfl (by (try simp only [List.map_toArray, List.map_cons, List.map_nil]); first | done | rfl | (simp only [List.length_drop, List.length_take]; rfl)) ?_; (with_reducible refine (word_Bit.calls a0 x38_2 false _ A21.out).mono ?_); rintro e w' ⟨rfl, ⟨nd, rfl⟩⟩; refine ⟨_, rfl, ?_⟩) | ((with_reducible refine gate_callee (f := 24) rfl ?_); refine goesL_ (some 48) rfl rfl Try.func24 (by kernel_rfl) rfl #[.int .u64 t135, .int .i64 x38_2] rfl (by (try simp only [List.map_toArray, List.map_cons, List.map_nil]); first | done | rfl | (simp only [List.length_drop, List.length_take]; rfl)) ?_; (with_reducible refine (word_Bit.calls t135 x38_2 t145 _ A27.out).mono ?_); rintro e w' ⟨rfl, ⟨nd, rfl⟩⟩; refine ⟨_, rfl, ?_⟩))
                    go_roundg k2
                    case measure => have := HJ4.out; have := HK2.out; omega
                    case rel => exact ⟨(x8_2), (wrap64 (x38_2 + 1)), (by first | rfl | (simp; done) | (simp [*]; done)), (by first | rfl | (simp; done) | (simp [*]; done)), H', ⟨by have := HJ4.out; have := HK2.out; omega⟩, ⟨by repeat (first | (with_reducible first | exact HB.out | apply below_alloc | apply pw_below_drewN | apply below_drew1) | exact HB.out)⟩⟩
            · rw [if_neg c20] at H
              have c20b0 : decide (x38_2 < 64) = false := decide_eq_false c20
              clear c20
              replace H := Option.bind_eq_some_iff.mp H
              obtain ⟨t142, A310, H⟩ := H
              replace H : (some (x8_2 == t142)) = some r := H
              have A31 := Aside0.mk A310
              clear A310
              obtain rfl := Option.some.inj H
              go_wp2_with (first | ((with_reducible refine gate_callee (f := 21) rfl ?_); refine goesL_ (some 61) rfl rfl Try.func21 (by kernel_rfl) rfl #[.int .u64 a0] rfl (by (try simp only [List.map_toArray, List.map_cons, List.map_nil]); first | done | rfl | (simp only [List.length_drop, List.length_take]; rfl)) ?_; (with_reducible refine (word_Ones.calls a0 t142 _ A31.out).mono ?_); rintro e w' ⟨rfl, ⟨nd, rfl⟩⟩; refine ⟨_, rfl, ?_⟩))
              go_ret
              exact ⟨by first | rfl | (simp [errW_none, errW_some] <;> rfl) | (simp [*, errW_none, errW_some] <;> rfl), by repeat (first | (with_reducible first | exact HB.out | apply below_alloc | apply pw_below_drewN | apply below_drew1) | exact HB.out)⟩

/-- THE ONE PURE STATEMENT of tamislaw01_WordBits: yours. -/
def tamislaw01_WordBits.Pure : Prop := ∀ (a0 : Int) (a1 : Int) (a2 : Int), (Lit.int .u64 a0).wf = true → (Lit.int .i64 a1).wf = true → (Lit.int .i64 a2).wf = true → ∃ k, tamislaw01_WordBits.f k a0 a1 a2 = some true
theorem tamislaw01_WordBits.walk (P : tamislaw01_WordBits.Pure) (a0 : Int) (a1 : Int) (a2 : Int) (w : World) (w0 : (Lit.int .u64 a0).wf = true) (w1 : (Lit.int .i64 a1).wf = true) (w2 : (Lit.int .i64 a2).wf = true) :
    Calls Try.prog 8 #[.int .u64 a0, .int .i64 a1, .int .i64 a2] w fun e w' => e = .returned (.bool true) ∧ Below w.heap.size w w' := by
  obtain ⟨k, h⟩ := P a0 a1 a2 w0 w1 w2
  refine (tamislaw01_WordBits.calls k a0 a1 a2 true w h).mono ?_
  rintro e w' ⟨rfl, hd⟩
  exact ⟨rfl, hd⟩

end Go.Proofs.Ythcanciolelmgaa.PWordBits
