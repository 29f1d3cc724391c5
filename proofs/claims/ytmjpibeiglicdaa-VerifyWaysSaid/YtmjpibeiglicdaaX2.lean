/- Functions of the program as plain Lean functions, and their contracts; written by a program out of the translation. -/
import Derived.Test.YtmjpibeiglicdaaX0
import Derived.Test.YtmjpibeiglicdaaX1
namespace Go.Proofs.Ytmjpibeiglicdaa.X
open Go.RowKit Go.Proofs.YtmjpibeiglicdaaW.PrintWords Go.Proofs.YtmjpibeiglicdaaW.PrintLast Go.Proofs.YtmjpibeiglicdaaW.PrintMore
attribute [local go_sem] max2_int min2_int max_two min_two max_three min_three max_four min_four   -- for this text's walks alone
set_option linter.unusedVariables false
set_option linter.unusedSimpArgs false

/-! ### verify_Local: function 41 -/
mutual
def verify_Local.j0 : Nat → List (S56) → Int → Bool → Option (Int)
  | 0, _, _, _ => none
  | k + 1, x0, x1, x15 => if x15 = true then (some 2) else (if 0 ≤ x1 then (if x1 < (x0.length : Int) then ((code_Kind.f ((rd_T56 x0 x1).f0)).bind fun t124 => (if t124 = 0 then (some 6) else (if t124 = 1 then ((record_Load.f 0 0 0 0 0 0 0 0 0 0 0 0 0 0 0 0 ((rd_T56 x0 x1).f3)).bind fun bt125 => (if bt125.2 = true then (some 0) else (some 11))) else (if t124 = 4 then (verify_Local.j1 k x0 x1 t124 (t124 == 4) ((rd_T56 x0 x1).f0) ((rd_T56 x0 x1).f1) ((rd_T56 x0 x1).f2) ((rd_T56 x0 x1).f3)) else (if t124 = 6 then (verify_Local.j1 k x0 x1 t124 (t124 == 6) ((rd_T56 x0 x1).f0) ((rd_T56 x0 x1).f1) ((rd_T56 x0 x1).f2) ((rd_T56 x0 x1).f3)) else (if t124 = 8 then (verify_Local.j1 k x0 x1 t124 (t124 == 8) ((rd_T56 x0 x1).f0) ((rd_T56 x0 x1).f1) ((rd_T56 x0 x1).f2) ((rd_T56 x0 x1).f3)) else (verify_Local.j1 k x0 x1 t124 (t124 == 9) ((rd_T56 x0 x1).f0) ((rd_T56 x0 x1).f1) ((rd_T56 x0 x1).f2) ((rd_T56 x0 x1).f3)))))))) else (none)) else (none))
def verify_Local.j1 : Nat → List (S56) → Int → Int → Bool → Int → Int → Int → Int → Option (Int)
  | 0, _, _, _, _, _, _, _, _ => none
  | k + 1, x0, x1, x22, x36, x124000, x124001, x124002, x124003 => if x36 = true then (if x124003 ≥ 16 then (some 10) else (some 0)) else (if x22 = 10 then ((verify_alu.f k x124000 x124001 x124002 x124003).bind fun t127 => (some t127)) else (if x22 = 11 then ((verify_out.f k x0 x1).bind fun t128 => (some t128)) else (if x22 = 12 then ((verify_out.f k x0 x1).bind fun t129 => (some t129)) else (some 0))))
end
def verify_Local.f (k : Nat) (l0 : List (S56)) (a1 : Int) : Option (Int) := if a1 < 0 then (verify_Local.j0 k l0 a1 true) else (verify_Local.j0 k l0 a1 (decide (a1 ≥ (l0.length : Int))))
theorem verify_Local.mono_l : ∀ k, (∀ y0 y1 y2, LeO (verify_Local.j0 k y0 y1 y2) (verify_Local.j0 (k + 1) y0 y1 y2)) ∧ (∀ y0 y1 y2 y3 y4 y5 y6 y7, LeO (verify_Local.j1 k y0 y1 y2 y3 y4 y5 y6 y7) (verify_Local.j1 (k + 1) y0 y1 y2 y3 y4 y5 y6 y7))
  | 0 => ⟨fun _ _ _ r h => by simp [verify_Local.j0] at h, fun _ _ _ _ _ _ _ _ r h => by simp [verify_Local.j1] at h⟩
  | k + 1 => by
    obtain ⟨ih0, ih1⟩ := verify_Local.mono_l k
    refine ⟨?_, ?_⟩
    · intro y0 y1 y2
      unfold verify_Local.j0
      repeat' first
      | (with_reducible exact ih0 _ _ _)
      | (with_reducible exact ih1 _ _ _ _ _ _ _ _)
      | (with_reducible exact verify_alu.mono _ _ _ _ _)
      | (with_reducible exact verify_out.mono _ _ _)
      | (with_reducible exact LeO.refl _)
      | (with_reducible exact LeO.none _)
      | (with_reducible refine LeO.ite ?_ ?_)
      | (with_reducible refine LeO.bind ?_ (fun _ => ?_))
      | exact ih0 _ _ _
      | exact ih1 _ _ _ _ _ _ _ _
      | exact verify_alu.mono _ _ _ _ _
      | exact verify_out.mono _ _ _
      | exact LeO.none _
      | refine LeO.ite ?_ ?_
      | refine LeO.bind ?_ (fun _ => ?_)
    · intro y0 y1 y2 y3 y4 y5 y6 y7
      unfold verify_Local.j1
      repeat' first
      | (with_reducible exact ih0 _ _ _)
      | (with_reducible exact ih1 _ _ _ _ _ _ _ _)
      | (with_reducible exact verify_alu.mono _ _ _ _ _)
      | (with_reducible exact verify_out.mono _ _ _)
      | (with_reducible exact LeO.refl _)
      | (with_reducible exact LeO.none _)
      | (with_reducible refine LeO.ite ?_ ?_)
      | (with_reducible refine LeO.bind ?_ (fun _ => ?_))
      | exact ih0 _ _ _
      | exact ih1 _ _ _ _ _ _ _ _
      | exact verify_alu.mono _ _ _ _ _
      | exact verify_out.mono _ _ _
      | exact LeO.none _
      | refine LeO.ite ?_ ?_
      | refine LeO.bind ?_ (fun _ => ?_)
theorem verify_Local.mono : ∀ a0 a1 k, LeO (verify_Local.f k a0 a1) (verify_Local.f (k + 1) a0 a1) := by
  intro a0 a1 k
  obtain ⟨ih0, ih1⟩ := verify_Local.mono_l k
  unfold verify_Local.f
  repeat' first
      | (with_reducible exact ih0 _ _ _)
      | (with_reducible exact ih1 _ _ _ _ _ _ _ _)
      | (with_reducible exact verify_alu.mono _ _ _ _ _)
      | (with_reducible exact verify_out.mono _ _ _)
      | (with_reducible exact LeO.refl _)
      | (with_reducible exact LeO.none _)
      | (with_reducible refine LeO.ite ?_ ?_)
      | (with_reducible refine LeO.bind ?_ (fun _ => ?_))
      | exact ih0 _ _ _
      | exact ih1 _ _ _ _ _ _ _ _
      | exact verify_alu.mono _ _ _ _ _
      | exact verify_out.mono _ _ _
      | exact LeO.none _
      | refine LeO.ite ?_ ?_
      | refine LeO.bind ?_ (fun _ => ?_)
set_option maxHeartbeats 8000000 in
set_option maxRecDepth 100000 in
theorem verify_Local.calls (k : Nat) (A0 : Option Addr) (c0 : Nat) (l0 : List (S56)) (a1 : Int) (r : Int) (w : World) (hr0 : Kd.C k56 w A0 l0.length l0) (hc0 : l0.length ≤ c0) (h : verify_Local.f k l0 a1 = some r) :
    Calls Try.prog 41 #[.slice A0 l0.length c0, .int .i64 a1] w fun e w' => e = .returned (.int .i64 r) ∧ Below w.heap.size w w' := by
  have hu56 := Try.underlying56
  have hu80 := Try.underlying80
  have HR0 := Aside0.mk hr0
  have HC0 := Aside0.mk hc0
  clear hr0 hc0
  have HB := Aside0.mk (Below.refl w.heap.size w)
  have H : (if a1 < 0 then (verify_Local.j0 k l0 a1 true) else (verify_Local.j0 k l0 a1 (decide (a1 ≥ (l0.length : Int))))) = some r := h
  clear h
  have HC3 := Aside0.mk H
  clear H
  go_enter Try.func41, Try.ntmps41
  go_upto_region 1 with (fail)
  go_cut [15] (fun v15 wc => ∃ (kq : Nat) (x15_2 : Bool), v15 = .bool x15_2 ∧ Aside0 (verify_Local.j0 kq l0 a1 x15_2 = some r) ∧ Aside0 (kq ≤ k) ∧ Aside0 (Below w.heap.size w wc))
  case first =>
    have H := HC3.out
    clear HC3
    by_cases c4 : a1 < 0
    · rw [if_pos c4] at H
      have c4b0 : decide (a1 < 0) = true := decide_eq_true c4
      clear c4
      (first | rw [c4b0] | (simp only [i64_w, i32_w]; rw [c4b0]) | skip)
      have H' := Aside0.mk H
      clear H
      go_wp2
      go_meet
      case rel => exact ⟨_, (true), (by first | rfl | (simp; done) | (simp [*]; done)), H', ⟨by first | omega | exact Nat.le_refl _⟩, ⟨by repeat (first | (with_reducible first | exact HB.out | apply below_alloc | apply pw_below_drewN | apply below_drew1) | exact HB.out)⟩⟩
    · rw [if_neg c4] at H
      have c4b0 : decide (a1 < 0) = false := decide_eq_false c4
      clear c4
      (first | rw [c4b0] | (simp only [i64_w, i32_w]; rw [c4b0]) | skip)
      have H' := Aside0.mk H
      clear H
      go_wp2
      go_meet
      case rel => exact ⟨_, (decide (a1 ≥ (l0.length : Int))), (by first | rfl | (simp; done) | (simp [*]; done)), H', ⟨by first | omega | exact Nat.le_refl _⟩, ⟨by repeat (first | (with_reducible first | exact HB.out | apply below_alloc | apply pw_below_drewN | apply below_drew1) | exact HB.out)⟩⟩
  case rest =>
    clear HC3
    try clear p2
    try clear c4
    try clear c4b0
    obtain ⟨kq, x15_2, rfl, HA, HJ2, HB⟩ := hcut
    cases kq with
    | zero => exact absurd HA.out (by simp [verify_Local.j0])
    | succ kj2 =>
      have H := HA.out
      clear HA
      simp only [verify_Local.j0] at H
      by_cases c5 : x15_2 = true
      · subst c5
        have H1 : (some 2) = some r := by rw [if_pos rfl] at H; exact H
        clear H
        have H := H1
        clear H1
        obtain rfl := Option.some.inj H
        go_wp2
        go_ret
        exact ⟨by first | rfl | (simp [errW_none, errW_some] <;> rfl) | (simp [*, errW_none, errW_some] <;> rfl), by repeat (first | (with_reducible first | exact HB.out | apply below_alloc | apply pw_below_drewN | apply below_drew1) | exact HB.out)⟩
      · replace c5 := Bool.eq_false_iff.mpr c5
        subst c5
        have H1 : (if 0 ≤ a1 then (if a1 < (l0.length : Int) then ((code_Kind.f ((rd_T56 l0 a1).f0)).bind fun t124 => (if t124 = 0 then (some 6) else (if t124 = 1 then ((record_Load.f 0 0 0 0 0 0 0 0 0 0 0 0 0 0 0 0 ((rd_T56 l0 a1).f3)).bind fun bt125 => (if bt125.2 = true then (some 0) else (some 11))) else (if t124 = 4 then (verify_Local.j1 kj2 l0 a1 t124 (t124 == 4) ((rd_T56 l0 a1).f0) ((rd_T56 l0 a1).f1) ((rd_T56 l0 a1).f2) ((rd_T56 l0 a1).f3)) else (if t124 = 6 then (verify_Local.j1 kj2 l0 a1 t124 (t124 == 6) ((rd_T56 l0 a1).f0) ((rd_T56 l0 a1).f1) ((rd_T56 l0 a1).f2) ((rd_T56 l0 a1).f3)) else (if t124 = 8 then (verify_Local.j1 kj2 l0 a1 t124 (t124 == 8) ((rd_T56 l0 a1).f0) ((rd_T56 l0 a1).f1) ((rd_T56 l0 a1).f2) ((rd_T56 l0 a1).f3)) else (verify_Local.j1 kj2 l0 a1 t124 (t124 == 9) ((rd_T56 l0 a1).f0) ((rd_T56 l0 a1).f1) ((rd_T56 l0 a1).f2) ((rd_T56 l0 a1).f3)))))))) else (none)) else (none)) = some r := by rw [if_neg (show ¬ (false = true) by decide)] at H; exact H
        clear H
        have H := H1
        clear H1
        by_cases c6 : 0 ≤ a1
        · rw [if_pos c6] at H
          have c6b0 : decide (0 ≤ a1) = true := decide_eq_true c6
          clear c6
          by_cases c7 : a1 < (l0.length : Int)
          · rw [if_pos c7] at H
            have c7b0 : decide (a1 < (l0.length : Int)) = true := decide_eq_true c7
            clear c7
            replace H := Option.bind_eq_some_iff.mp H
            obtain ⟨t124, A80, H⟩ := H
            replace H : (if t124 = 0 then (some 6) else (if t124 = 1 then ((record_Load.f 0 0 0 0 0 0 0 0 0 0 0 0 0 0 0 0 ((rd_T56 l0 a1).f3)).bind fun bt125 => (if bt125.2 = true then (some 0) else (some 11))) else (if t124 = 4 then (verify_Local.j1 kj2 l0 a1 t124 (t124 == 4) ((rd_T56 l0 a1).f0) ((rd_T56 l0 a1).f1) ((rd_T56 l0 a1).f2) ((rd_T56 l0 a1).f3)) else (if t124 = 6 then (verify_Local.j1 kj2 l0 a1 t124 (t124 == 6) ((rd_T56 l0 a1).f0) ((rd_T56 l0 a1).f1) ((rd_T56 l0 a1).f2) ((rd_T56 l0 a1).f3)) else (if t124 = 8 then (verify_Local.j1 kj2 l0 a1 t124 (t124 == 8) ((rd_T56 l0 a1).f0) ((rd_T56 l0 a1).f1) ((rd_T56 l0 a1).f2) ((rd_T56 l0 a1).f3)) else (verify_Local.j1 kj2 l0 a1 t124 (t124 == 9) ((rd_T56 l0 a1).f0) ((rd_T56 l0 a1).f1) ((rd_T56 l0 a1).f2) ((rd_T56 l0 a1).f3))))))) = some r := H
            have A8 := Aside0.mk A80
            clear A80
            by_cases c9 : t124 = 0
            · rw [if_pos c9] at H
              have c9b0 : (t124 == 0) = true := beq_iff_eq.mpr c9
              have c9b1 : (t124 != 0) = false := bne_eq_false_iff_eq.mpr c9
              clear c9
              obtain rfl := Option.some.inj H
              have p122 : 0 ≤ (a1 : Int) := of_decide_eq_true (by first | (with_reducible assumption) | assumption)
              have q122 : a1 < (l0.length : Int) := of_decide_eq_true (by first | (with_reducible assumption) | assumption)
              obtain ⟨ad122, e122, hx122_0, hx122_1, hx122_2, hx122_3⟩ := at_T56 HR0.out a1 p122 q122
              cases e122
              replace hx122_0 := (HB.out.cell (World.block_lt_of_cell? w _ hx122_0)).trans hx122_0
              replace hx122_1 := (HB.out.cell (World.block_lt_of_cell? w _ hx122_1)).trans hx122_1
              replace hx122_2 := (HB.out.cell (World.block_lt_of_cell? w _ hx122_2)).trans hx122_2
              replace hx122_3 := (HB.out.cell (World.block_lt_of_cell? w _ hx122_3)).trans hx122_3
              replace p122 := eq_true p122
              replace q122 := eq_true q122
              go_wp2_with (first | ((with_reducible refine gate_dst (N := 5) rfl ?_); (try (refine gate_guard (by rfl) ?_; dsimp only)); refine box_event ?hg (N := 5) ?hd (cs := #[.int .u16 0, .int .u8 0, .int .u8 0, .int .u32 0]) (t := 56) ?hr ?_; (case hd => rfl); (case hg => rfl); (case hr => first | (go_simp; done) | (go_simp; rfl)); intro gb123 hg w10 hbox hb; have n0_ := Aside0.mk (below_step (by repeat (first | (with_reducible first | exact HB.out | apply below_alloc | apply pw_below_drewN | apply below_drew1) | exact HB.out)) hb); have n1_ := Aside0.mk (hbox); have n2_ := Aside0.mk ((by rw [hg]; exact (below_size (by repeat (first | (with_reducible first | exact HB.out | apply below_alloc | apply pw_below_drewN | apply below_drew1) | exact HB.out))) : w.heap.size ≤ gb123)); have n3_ := Aside0.mk ((by rw [hg]; exact (below_size (by repeat (first | (with_reducible first | exact HB.out | apply below_alloc | apply pw_below_drewN | apply below_drew1) | exact HB.out))) : w.heap.size ≤ gb123)); clear HB; have HB := n0_; have BK123 := n1_; have GW123 := n2_; have GE123 := n3_; clear n0_ n1_ n2_ n3_; clear hb hbox hg; have hcz11_0 : w10.cell? ⟨gb123, 0, none⟩ = some (.int .u16 0) := (blk_cell BK123.out 0).trans rfl; have hcz11_1 : w10.cell? ⟨gb123, 1, none⟩ = some (.int .u8 0) := (blk_cell BK123.out 1).trans rfl; have hcz11_2 : w10.cell? ⟨gb123, 2, none⟩ = some (.int .u8 0) := (blk_cell BK123.out 2).trans rfl; have hcz11_3 : w10.cell? ⟨gb123, 3, none⟩ = some (.int .u32 0) := (blk_cell BK123.out 3).trans rfl; have hfz11_0 := blk_frozen BK123.out 0; have hfz11_1 := blk_frozen BK123.out 1; have hfz11_2 := blk_frozen BK123.out 2; have hfz11_3 := blk_frozen BK123.out 3) | ((with_reducible refine gate_callee (f := 78) rfl ?_); refine goesL_ (some 22) rfl rfl Try.func78 (by kernel_rfl) rfl #[.int .u16 ((rd_T56 l0 a1).f0)] rfl (by (try simp only [List.map_toArray, List.map_cons, List.map_nil]); first | done | rfl | (simp only [List.length_drop, List.length_take]; rfl)) ?_; (with_reducible refine (code_Kind.calls ((rd_T56 l0 a1).f0) t124 _ A8.out).mono ?_); rintro e w12 ⟨rfl, hb⟩; refine ⟨_, rfl, ?_⟩; have n0_ := Aside0.mk (blk_below (g := gb123) (o := .cells #[.int .u16 ((rd_T56 l0 a1).f0), .int .u8 ((rd_T56 l0 a1).f1), .int .u8 ((rd_T56 l0 a1).f2), .int .u32 ((rd_T56 l0 a1).f3)] 56 (0, 0)) (by (with_reducible repeat (first | refine blk_drewN ?_ _ | refine blk_drew ?_ | refine blk_alloc ?_ _)); refine blk_put (cs := #[.int .u16 ((rd_T56 l0 a1).f0), .int .u8 ((rd_T56 l0 a1).f1), .int .u8 ((rd_T56 l0 a1).f2), .int .u32 0]) ?_ 3 _ rfl; (with_reducible repeat (first | refine blk_drewN ?_ _ | refine blk_drew ?_ | refine blk_alloc ?_ _)); refine blk_put (cs := #[.int .u16 ((rd_T56 l0 a1).f0), .int .u8 ((rd_T56 l0 a1).f1), .int .u8 0, .int .u32 0]) ?_ 2 _ rfl; (with_reducible repeat (first | refine blk_drewN ?_ _ | refine blk_drew ?_ | refine blk_alloc ?_ _)); refine blk_put (cs := #[.int .u16 ((rd_T56 l0 a1).f0), .int .u8 0, .int .u8 0, .int .u32 0]) ?_ 1 _ rfl; (with_reducible repeat (first | refine blk_drewN ?_ _ | refine blk_drew ?_ | refine blk_alloc ?_ _)); refine blk_put (cs := #[.int .u16 0, .int .u8 0, .int .u8 0, .int .u32 0]) ?_ 0 _ rfl; (with_reducible repeat (first | refine blk_drewN ?_ _ | refine blk_drew ?_ | refine blk_alloc ?_ _)); exact BK123.out) hb); have n1_ := Aside0.mk (below_step (by repeat (first | (with_reducible first | exact HB.out | apply below_alloc | apply pw_below_drewN | apply below_drew1 | refine below_set ?_ GE123.out) | exact HB.out)) hb); clear BK123; clear HB; have BK123 := n0_; have HB := n1_; clear n0_ n1_; (try clear hb); (try clear hb2); (try clear hk); (try clear hi)))
              go_ret
              exact ⟨by first | rfl | (simp [errW_none, errW_some] <;> rfl) | (simp [*, errW_none, errW_some] <;> rfl), by repeat (first | (with_reducible first | exact HB.out | apply below_alloc | apply pw_below_drewN | apply below_drew1 | refine below_set ?_ GE123.out) | exact HB.out)⟩
            · rw [if_neg c9] at H
              have c9b0 : (t124 == 0) = false := beq_eq_false_iff_ne.mpr c9
              have c9b1 : (t124 != 0) = true := bne_iff_ne.mpr c9
              by_cases c13 : t124 = 1
              · rw [if_pos c13] at H
                have c13b0 : (t124 == 1) = true := beq_iff_eq.mpr c13
                have c13b1 : (t124 != 1) = false := bne_eq_false_iff_eq.mpr c13
                clear c13
                replace H := Option.bind_eq_some_iff.mp H
                obtain ⟨⟨t125, t126⟩, A140, H⟩ := H
                replace H : (if t126 = true then (some 0) else (some 11)) = some r := H
                have A14 := Aside0.mk A140
                clear A140
                by_cases c15 : t126 = true
                · subst c15
                  have H1 : (some 0) = some r := by rw [if_pos rfl] at H; exact H
                  clear H
                  have H := H1
                  clear H1
                  obtain rfl := Option.some.inj H
                  have p122 : 0 ≤ (a1 : Int) := of_decide_eq_true (by first | (with_reducible assumption) | assumption)
                  have q122 : a1 < (l0.length : Int) := of_decide_eq_true (by first | (with_reducible assumption) | assumption)
                  obtain ⟨ad122, e122, hx122_0, hx122_1, hx122_2, hx122_3⟩ := at_T56 HR0.out a1 p122 q122
                  cases e122
                  replace hx122_0 := (HB.out.cell (World.block_lt_of_cell? w _ hx122_0)).trans hx122_0
                  replace hx122_1 := (HB.out.cell (World.block_lt_of_cell? w _ hx122_1)).trans hx122_1
                  replace hx122_2 := (HB.out.cell (World.block_lt_of_cell? w _ hx122_2)).trans hx122_2
                  replace hx122_3 := (HB.out.cell (World.block_lt_of_cell? w _ hx122_3)).trans hx122_3
                  replace p122 := eq_true p122
                  replace q122 := eq_true q122
                  go_wp2_with (first | ((with_reducible refine gate_dst (N := 5) rfl ?_); (try (refine gate_guard (by rfl) ?_; dsimp only)); refine box_event ?hg (N := 5) ?hd (cs := #[.int .u16 0, .int .u8 0, .int .u8 0, .int .u32 0]) (t := 56) ?hr ?_; (case hd => rfl); (case hg => rfl); (case hr => first | (go_simp; done) | (go_simp; rfl)); intro gb123 hg w16 hbox hb; have n0_ := Aside0.mk (below_step (by repeat (first | (with_reducible first | exact HB.out | apply below_alloc | apply pw_below_drewN | apply below_drew1) | exact HB.out)) hb); have n1_ := Aside0.mk (hbox); have n2_ := Aside0.mk ((by rw [hg]; exact (below_size (by repeat (first | (with_reducible first | exact HB.out | apply below_alloc | apply pw_below_drewN | apply below_drew1) | exact HB.out))) : w.heap.size ≤ gb123)); have n3_ := Aside0.mk ((by rw [hg]; exact (below_size (by repeat (first | (with_reducible first | exact HB.out | apply below_alloc | apply pw_below_drewN | apply below_drew1) | exact HB.out))) : w.heap.size ≤ gb123)); clear HB; have HB := n0_; have BK123 := n1_; have GW123 := n2_; have GE123 := n3_; clear n0_ n1_ n2_ n3_; clear hb hbox hg; have hcz17_0 : w16.cell? ⟨gb123, 0, none⟩ = some (.int .u16 0) := (blk_cell BK123.out 0).trans rfl; have hcz17_1 : w16.cell? ⟨gb123, 1, none⟩ = some (.int .u8 0) := (blk_cell BK123.out 1).trans rfl; have hcz17_2 : w16.cell? ⟨gb123, 2, none⟩ = some (.int .u8 0) := (blk_cell BK123.out 2).trans rfl; have hcz17_3 : w16.cell? ⟨gb123, 3, none⟩ = some (.int .u32 0) := (blk_cell BK123.out 3).trans rfl; have hfz17_0 := blk_frozen BK123.out 0; have hfz17_1 := blk_frozen BK123.out 1; have hfz17_2 := blk_frozen BK123.out 2; have hfz17_3 := blk_frozen BK123.out 3) | ((with_reducible refine gate_callee (f := 78) rfl ?_); refine goesL_ (some 22) rfl rfl Try.func78 (by kernel_rfl) rfl #[.int .u16 ((rd_T56 l0 a1).f0)] rfl (by (try simp only [List.map_toArray, List.map_cons, List.map_nil]); first | done | rfl | (simp only [List.length_drop, List.length_take]; rfl)) ?_; (with_reducible refine (code_Kind.calls ((rd_T56 l0 a1).f0) t124 _ A8.out).mono ?_); rintro e w18 ⟨rfl, hb⟩; refine ⟨_, rfl, ?_⟩; have n0_ := Aside0.mk (blk_below (g := gb123) (o := .cells #[.int .u16 ((rd_T56 l0 a1).f0), .int .u8 ((rd_T56 l0 a1).f1), .int .u8 ((rd_T56 l0 a1).f2), .int .u32 ((rd_T56 l0 a1).f3)] 56 (0, 0)) (by (with_reducible repeat (first | refine blk_drewN ?_ _ | refine blk_drew ?_ | refine blk_alloc ?_ _)); refine blk_put (cs := #[.int .u16 ((rd_T56 l0 a1).f0), .int .u8 ((rd_T56 l0 a1).f1), .int .u8 ((rd_T56 l0 a1).f2), .int .u32 0]) ?_ 3 _ rfl; (with_reducible repeat (first | refine blk_drewN ?_ _ | refine blk_drew ?_ | refine blk_alloc ?_ _)); refine blk_put (cs := #[.int .u16 ((rd_T56 l0 a1).f0), .int .u8 ((rd_T56 l0 a1).f1), .int .u8 0, .int .u32 0]) ?_ 2 _ rfl; (with_reducible repeat (first | refine blk_drewN ?_ _ | refine blk_drew ?_ | refine blk_alloc ?_ _)); refine blk_put (cs := #[.int .u16 ((rd_T56 l0 a1).f0), .int .u8 0, .int .u8 0, .int .u32 0]) ?_ 1 _ rfl; (with_reducible repeat (first | refine blk_drewN ?_ _ | refine blk_drew ?_ | refine blk_alloc ?_ _)); refine blk_put (cs := #[.int .u16 0, .int .u8 0, .int .u8 0, .int .u32 0]) ?_ 0 _ rfl; (with_reducible repeat (first | refine blk_drewN ?_ _ | refine blk_drew ?_ | refine blk_alloc ?_ _)); exact BK123.out) hb); have n1_ := Aside0.mk (below_step (by repeat (first | (with_reducible first | exact HB.out | apply below_alloc | apply pw_below_drewN | apply below_drew1 | refine below_set ?_ GE123.out) | exact HB.out)) hb); clear BK123; clear HB; have BK123 := n0_; have HB := n1_; clear n0_ n1_; (try clear hb); (try clear hb2); (try clear hk); (try clear hi); have hcz19_0 : w18.cell? ⟨gb123, 0, none⟩ = some (.int .u16 ((rd_T56 l0 a1).f0)) := (blk_cell BK123.out 0).trans rfl; have hcz19_1 : w18.cell? ⟨gb123, 1, none⟩ = some (.int .u8 ((rd_T56 l0 a1).f1)) := (blk_cell BK123.out 1).trans rfl; have hcz19_2 : w18.cell? ⟨gb123, 2, none⟩ = some (.int .u8 ((rd_T56 l0 a1).f2)) := (blk_cell BK123.out 2).trans rfl; have hcz19_3 : w18.cell? ⟨gb123, 3, none⟩ = some (.int .u32 ((rd_T56 l0 a1).f3)) := (blk_cell BK123.out 3).trans rfl; have hfz19_0 := blk_frozen BK123.out 0; have hfz19_1 := blk_frozen BK123.out 1; have hfz19_2 := blk_frozen BK123.out 2; have hfz19_3 := blk_frozen BK123.out 3) | ((with_reducible refine gate_callee (f := 79) rfl ?_); refine goesL_ (some 31) rfl rfl Try.func79 (by kernel_rfl) rfl #[.agg #[.int .u32 0, .int .u32 0, .int .u32 0, .int .u32 0, .int .u32 0, .int .u32 0, .int .u32 0, .int .u32 0, .int .u32 0, .int .u32 0, .int .u32 0, .int .u32 0, .int .u32 0, .int .u32 0, .int .u32 0, .int .u32 0], .int .u32 ((rd_T56 l0 a1).f3)] rfl (by (try simp only [List.map_toArray, List.map_cons, List.map_nil]); first | done | rfl | (simp only [List.length_drop, List.length_take]; rfl)) ?_; (with_reducible refine (record_Load.calls 0 0 0 0 0 0 0 0 0 0 0 0 0 0 0 0 ((rd_T56 l0 a1).f3) t125 true _ A14.out).mono ?_); rintro e w20 ⟨rfl, hb⟩; refine ⟨_, rfl, ?_⟩; have n0_ := Aside0.mk (blk_below (g := gb123) (o := .cells #[.int .u16 ((rd_T56 l0 a1).f0), .int .u8 ((rd_T56 l0 a1).f1), .int .u8 ((rd_T56 l0 a1).f2), .int .u32 ((rd_T56 l0 a1).f3)] 56 (0, 0)) (by (with_reducible repeat (first | refine blk_drewN ?_ _ | refine blk_drew ?_ | refine blk_alloc ?_ _)); exact BK123.out) hb); have n1_ := Aside0.mk (below_step (by repeat (first | (with_reducible first | exact HB.out | apply below_alloc | apply pw_below_drewN | apply below_drew1 | refine below_set ?_ GE123.out) | exact HB.out)) hb); clear BK123; clear HB; have BK123 := n0_; have HB := n1_; clear n0_ n1_; (try clear hb); (try clear hb2); (try clear hk); (try clear hi)))
                  go_ret
                  exact ⟨by first | rfl | (simp [errW_none, errW_some] <;> rfl) | (simp [*, errW_none, errW_some] <;> rfl), by repeat (first | (with_reducible first | exact HB.out | apply below_alloc | apply pw_below_drewN | apply below_drew1 | refine below_set ?_ GE123.out) | exact HB.out)⟩
                · replace c15 := Bool.eq_false_iff.mpr c15
                  subst c15
                  have H1 : (some 11) = some r := by rw [if_neg (show ¬ (false = true) by decide)] at H; exact H
                  clear H
                  have H := H1
                  clear H1
                  obtain rfl := Option.some.inj H
                  have p122 : 0 ≤ (a1 : Int) := of_decide_eq_true (by first | (with_reducible assumption) | assumption)
                  have q122 : a1 < (l0.length : Int) := of_decide_eq_true (by first | (with_reducible assumption) | assumption)
                  obtain ⟨ad122, e122, hx122_0, hx122_1, hx122_2, hx122_3⟩ := at_T56 HR0.out a1 p122 q122
                  cases e122
                  replace hx122_0 := (HB.out.cell (World.block_lt_of_cell? w _ hx122_0)).trans hx122_0
                  replace hx122_1 := (HB.out.cell (World.block_lt_of_cell? w _ hx122_1)).trans hx122_1
                  replace hx122_2 := (HB.out.cell (World.block_lt_of_cell? w _ hx122_2)).trans hx122_2
                  replace hx122_3 := (HB.out.cell (World.block_lt_of_cell? w _ hx122_3)).trans hx122_3
                  replace p122 := eq_true p122
                  replace q122 := eq_true q122
                  go_wp2_with (first | ((with_reducible refine gate_dst (N := 5) rfl ?_); (try (refine gate_guard (by rfl) ?_; dsimp only)); refine box_event ?hg (N := 5) ?hd (cs := #[.int .u16 0, .int .u8 0, .int .u8 0, .int .u32 0]) (t := 56) ?hr ?_; (case hd => rfl); (case hg => rfl); (case hr => first | (go_simp; done) | (go_simp; rfl)); intro gb123 hg w21 hbox hb; have n0_ := Aside0.mk (below_step (by repeat (first | (with_reducible first | exact HB.out | apply below_alloc | apply pw_below_drewN | apply below_drew1) | exact HB.out)) hb); have n1_ := Aside0.mk (hbox); have n2_ := Aside0.mk ((by rw [hg]; exact (below_size (by repeat (first | (with_reducible first | exact HB.out | apply below_alloc | apply pw_below_drewN | apply below_drew1) | exact HB.out))) : w.heap.size ≤ gb123)); have n3_ := Aside0.mk ((by rw [hg]; exact (below_size (by repeat (first | (with_reducible first | exact HB.out | apply below_alloc | apply pw_below_drewN | apply below_drew1) | exact HB.out))) : w.heap.size ≤ gb123)); clear HB; have HB := n0_; have BK123 := n1_; have GW123 := n2_; have GE123 := n3_; clear n0_ n1_ n2_ n3_; clear hb hbox hg; have hcz22_0 : w21.cell? ⟨gb123, 0, none⟩ = some (.int .u16 0) := (blk_cell BK123.out 0).trans rfl; have hcz22_1 : w21.cell? ⟨gb123, 1, none⟩ = some (.int .u8 0) := (blk_cell BK123.out 1).trans rfl; have hcz22_2 : w21.cell? ⟨gb123, 2, none⟩ = some (.int .u8 0) := (blk_cell BK123.out 2).trans rfl; have hcz22_3 : w21.cell? ⟨gb123, 3, none⟩ = some (.int .u32 0) := (blk_cell BK123.out 3).trans rfl; have hfz22_0 := blk_frozen BK123.out 0; have hfz22_1 := blk_frozen BK123.out 1; have hfz22_2 := blk_frozen BK123.out 2; have hfz22_3 := blk_frozen BK123.out 3) | ((with_reducible refine gate_callee (f := 78) rfl ?_); refine goesL_ (some 22) rfl rfl Try.func78 (by kernel_rfl) rfl #[.int .u16 ((rd_T56 l0 a1).f0)] rfl (by (try simp only [List.map_toArray, List.map_cons, List.map_nil]); first | done | rfl | (simp only [List.length_drop, List.length_take]; rfl)) ?_; (with_reducible refine (code_Kind.calls ((rd_T56 l0 a1).f0) t124 _ A8.out).mono ?_); rintro e w23 ⟨rfl, hb⟩; refine ⟨_, rfl, ?_⟩; have n0_ := Aside0.mk (blk_below (g := gb123) (o := .cells #[.int .u16 ((rd_T56 l0 a1).f0), .int .u8 ((rd_T56 l0 a1).f1), .int .u8 ((rd_T56 l0 a1).f2), .int .u32 ((rd_T56 l0 a1).f3)] 56 (0, 0)) (by (with_reducible repeat (first | refine blk_drewN ?_ _ | refine blk_drew ?_ | refine blk_alloc ?_ _)); refine blk_put (cs := #[.int .u16 ((rd_T56 l0 a1).f0), .int .u8 ((rd_T56 l0 a1).f1), .int .u8 ((rd_T56 l0 a1).f2), .int .u32 0]) ?_ 3 _ rfl; (with_reducible repeat (first | refine blk_drewN ?_ _ | refine blk_drew ?_ | refine blk_alloc ?_ _)); refine blk_put (cs := #[.int .u16 ((rd_T56 l0 a1).f0), .int .u8 ((rd_T56 l0 a1).f1), .int .u8 0, .int .u32 0]) ?_ 2 _ rfl; (with_reducible repeat (first | refine blk_drewN ?_ _ | refine blk_drew ?_ | refine blk_alloc ?_ _)); refine blk_put (cs := #[.int .u16 ((rd_T56 l0 a1).f0), .int .u8 0, .int .u8 0, .int .u32 0]) ?_ 1 _ rfl; (with_reducible repeat (first | refine blk_drewN ?_ _ | refine blk_drew ?_ | refine blk_alloc ?_ _)); refine blk_put (cs := #[.int .u16 0, .int .u8 0, .int .u8 0, .int .u32 0]) ?_ 0 _ rfl; (with_reducible repeat (first | refine blk_drewN ?_ _ | refine blk_drew ?_ | refine blk_alloc ?_ _)); exact BK123.out) hb); have n1_ := Aside0.mk (below_step (by repeat (first | (with_reducible first | exact HB.out | apply below_alloc | apply pw_below_drewN | apply below_drew1 | refine below_set ?_ GE123.out) | exact HB.out)) hb); clear BK123; clear HB; have BK123 := n0_; have HB := n1_; clear n0_ n1_; (try clear hb); (try clear hb2); (try clear hk); (try clear hi); have hcz24_0 : w23.cell? ⟨gb123, 0, none⟩ = some (.int .u16 ((rd_T56 l0 a1).f0)) := (blk_cell BK123.out 0).trans rfl; have hcz24_1 : w23.cell? ⟨gb123, 1, none⟩ = some (.int .u8 ((rd_T56 l0 a1).f1)) := (blk_cell BK123.out 1).trans rfl; have hcz24_2 : w23.cell? ⟨gb123, 2, none⟩ = some (.int .u8 ((rd_T56 l0 a1).f2)) := (blk_cell BK123.out 2).trans rfl; have hcz24_3 : w23.cell? ⟨gb123, 3, none⟩ = some (.int .u32 ((rd_T56 l0 a1).f3)) := (blk_cell BK123.out 3).trans rfl; have hfz24_0 := blk_frozen BK123.out 0; have hfz24_1 := blk_frozen BK123.out 1; have hfz24_2 := blk_frozen BK123.out 2; have hfz24_3 := blk_frozen BK123.out 3) | ((with_reducible refine gate_callee (f := 79) rfl ?_); refine goesL_ (some 31) rfl rfl Try.func79 (by kernel_rfl) rfl #[.agg #[.int .u32 0, .int .u32 0, .int .u32 0, .int .u32 0, .int .u32 0, .int .u32 0, .int .u32 0, .int .u32 0, .int .u32 0, .int .u32 0, .int .u32 0, .int .u32 0, .int .u32 0, .int .u32 0, .int .u32 0, .int .u32 0], .int .u32 ((rd_T56 l0 a1).f3)] rfl (by (try simp only [List.map_toArray, List.map_cons, List.map_nil]); first | done | rfl | (simp only [List.length_drop, List.length_take]; rfl)) ?_; (with_reducible refine (record_Load.calls 0 0 0 0 0 0 0 0 0 0 0 0 0 0 0 0 ((rd_T56 l0 a1).f3) t125 false _ A14.out).mono ?_); rintro e w25 ⟨rfl, hb⟩; refine ⟨_, rfl, ?_⟩; have n0_ := Aside0.mk (blk_below (g := gb123) (o := .cells #[.int .u16 ((rd_T56 l0 a1).f0), .int .u8 ((rd_T56 l0 a1).f1), .int .u8 ((rd_T56 l0 a1).f2), .int .u32 ((rd_T56 l0 a1).f3)] 56 (0, 0)) (by (with_reducible repeat (first | refine blk_drewN ?_ _ | refine blk_drew ?_ | refine blk_alloc ?_ _)); exact BK123.out) hb); have n1_ := Aside0.mk (below_step (by repeat (first | (with_reducible first | exact HB.out | apply below_alloc | apply pw_below_drewN | apply below_drew1 | refine below_set ?_ GE123.out) | exact HB.out)) hb); clear BK123; clear HB; have BK123 := n0_; have HB := n1_; clear n0_ n1_; (try clear hb); (try clear hb2); (try clear hk); (try clear hi)))
                  go_ret
                  exact ⟨by first | rfl | (simp [errW_none, errW_some] <;> rfl) | (simp [*, errW_none, errW_some] <;> rfl), by repeat (first | (with_reducible first | exact HB.out | apply below_alloc | apply pw_below_drewN | apply below_drew1 | refine below_set ?_ GE123.out) | exact HB.out)⟩
              · rw [if_neg c13] at H
                have c13b0 : (t124 == 1) = false := beq_eq_false_iff_ne.mpr c13
                have c13b1 : (t124 != 1) = true := bne_iff_ne.mpr c13
                have HC26 := Aside0.mk H
                clear H
                have p122 : 0 ≤ (a1 : Int) := of_decide_eq_true (by first | (with_reducible assumption) | assumption)
                have q122 : a1 < (l0.length : Int) := of_decide_eq_true (by first | (with_reducible assumption) | assumption)
                obtain ⟨ad122, e122, hx122_0, hx122_1, hx122_2, hx122_3⟩ := at_T56 HR0.out a1 p122 q122
                cases e122
                replace hx122_0 := (HB.out.cell (World.block_lt_of_cell? w _ hx122_0)).trans hx122_0
                replace hx122_1 := (HB.out.cell (World.block_lt_of_cell? w _ hx122_1)).trans hx122_1
                replace hx122_2 := (HB.out.cell (World.block_lt_of_cell? w _ hx122_2)).trans hx122_2
                replace hx122_3 := (HB.out.cell (World.block_lt_of_cell? w _ hx122_3)).trans hx122_3
                replace p122 := eq_true p122
                replace q122 := eq_true q122
                go_upto_if 36 with (first | ((with_reducible refine gate_dst (N := 5) rfl ?_); (try (refine gate_guard (by rfl) ?_; dsimp only)); refine box_event ?hg (N := 5) ?hd (cs := #[.int .u16 0, .int .u8 0, .int .u8 0, .int .u32 0]) (t := 56) ?hr ?_; (case hd => rfl); (case hg => rfl); (case hr => first | (go_simp; done) | (go_simp; rfl)); intro gb123 hg w27 hbox hb; have n0_ := Aside0.mk (below_step (by repeat (first | (with_reducible first | exact HB.out | apply below_alloc | apply pw_below_drewN | apply below_drew1) | exact HB.out)) hb); have n1_ := Aside0.mk (hbox); have n2_ := Aside0.mk ((by rw [hg]; exact (below_size (by repeat (first | (with_reducible first | exact HB.out | apply below_alloc | apply pw_below_drewN | apply below_drew1) | exact HB.out))) : w.heap.size ≤ gb123)); have n3_ := Aside0.mk ((by rw [hg]; exact (below_size (by repeat (first | (with_reducible first | exact HB.out | apply below_alloc | apply pw_below_drewN | apply below_drew1) | exact HB.out))) : w.heap.size ≤ gb123)); clear HB; have HB := n0_; have BK123 := n1_; have GW123 := n2_; have GE123 := n3_; clear n0_ n1_ n2_ n3_; clear hb hbox hg; have hcz28_0 : w27.cell? ⟨gb123, 0, none⟩ = some (.int .u16 0) := (blk_cell BK123.out 0).trans rfl; have hcz28_1 : w27.cell? ⟨gb123, 1, none⟩ = some (.int .u8 0) := (blk_cell BK123.out 1).trans rfl; have hcz28_2 : w27.cell? ⟨gb123, 2, none⟩ = some (.int .u8 0) := (blk_cell BK123.out 2).trans rfl; have hcz28_3 : w27.cell? ⟨gb123, 3, none⟩ = some (.int .u32 0) := (blk_cell BK123.out 3).trans rfl; have hfz28_0 := blk_frozen BK123.out 0; have hfz28_1 := blk_frozen BK123.out 1; have hfz28_2 := blk_frozen BK123.out 2; have hfz28_3 := blk_frozen BK123.out 3) | ((with_reducible refine gate_callee (f := 78) rfl ?_); refine goesL_ (some 22) rfl rfl Try.func78 (by kernel_rfl) rfl #[.int .u16 ((rd_T56 l0 a1).f0)] rfl (by (try simp only [List.map_toArray, List.map_cons, List.map_nil]); first | done | rfl | (simp only [List.length_drop, List.length_take]; rfl)) ?_; (with_reducible refine (code_Kind.calls ((rd_T56 l0 a1).f0) t124 _ A8.out).mono ?_); rintro e w29 ⟨rfl, hb⟩; refine ⟨_, rfl, ?_⟩; have n0_ := Aside0.mk (blk_below (g := gb123) (o := .cells #[.int .u16 ((rd_T56 l0 a1).f0), .int .u8 ((rd_T56 l0 a1).f1), .int .u8 ((rd_T56 l0 a1).f2), .int .u32 ((rd_T56 l0 a1).f3)] 56 (0, 0)) (by (with_reducible repeat (first | refine blk_drewN ?_ _ | refine blk_drew ?_ | refine blk_alloc ?_ _)); refine blk_put (cs := #[.int .u16 ((rd_T56 l0 a1).f0), .int .u8 ((rd_T56 l0 a1).f1), .int .u8 ((rd_T56 l0 a1).f2), .int .u32 0]) ?_ 3 _ rfl; (with_reducible repeat (first | refine blk_drewN ?_ _ | refine blk_drew ?_ | refine blk_alloc ?_ _)); refine blk_put (cs := #[.int .u16 ((rd_T56 l0 a1).f0), .int .u8 ((rd_T56 l0 a1).f1), .int .u8 0, .int .u32 0]) ?_ 2 _ rfl; (with_reducible repeat (first | refine blk_drewN ?_ _ | refine blk_drew ?_ | refine blk_alloc ?_ _)); refine blk_put (cs := #[.int .u16 ((rd_T56 l0 a1).f0), .int .u8 0, .int .u8 0, .int .u32 0]) ?_ 1 _ rfl; (with_reducible repeat (first | refine blk_drewN ?_ _ | refine blk_drew ?_ | refine blk_alloc ?_ _)); refine blk_put (cs := #[.int .u16 0, .int .u8 0, .int .u8 0, .int .u32 0]) ?_ 0 _ rfl; (with_reducible repeat (first | refine blk_drewN ?_ _ | refine blk_drew ?_ | refine blk_alloc ?_ _)); exact BK123.out) hb); have n1_ := Aside0.mk (below_step (by repeat (first | (with_reducible first | exact HB.out | apply below_alloc | apply pw_below_drewN | apply below_drew1 | refine below_set ?_ GE123.out) | exact HB.out)) hb); clear BK123; clear HB; have BK123 := n0_; have HB := n1_; clear n0_ n1_; (try clear hb); (try clear hb2); (try clear hk); (try clear hi)))
                (try simp only [Act.put, List.setIfInBounds_toArray, List.set_cons_zero, List.set_cons_succ])
                go_cut [36] (fun v36 wc => ∃ (kq : Nat) (x36_25 : Bool), v36 = .bool x36_25 ∧ Aside0 (verify_Local.j1 kq l0 a1 t124 x36_25 ((rd_T56 l0 a1).f0) ((rd_T56 l0 a1).f1) ((rd_T56 l0 a1).f2) ((rd_T56 l0 a1).f3) = some r) ∧ Aside0 (kq ≤ kj2) ∧ Aside0 (wc.heap[gb123]? = some (.cells #[.int .u16 ((rd_T56 l0 a1).f0), .int .u8 ((rd_T56 l0 a1).f1), .int .u8 ((rd_T56 l0 a1).f2), .int .u32 ((rd_T56 l0 a1).f3)] 56 (0, 0))) ∧ Aside0 (Below w.heap.size w wc))
                case first =>
                  have H := HC26.out
                  clear HC26
                  by_cases c30 : t124 = 4
                  · rw [if_pos c30] at H
                    have c30b0 : (t124 == 4) = true := beq_iff_eq.mpr c30
                    have c30b1 : (t124 != 4) = false := bne_eq_false_iff_eq.mpr c30
                    clear c30
                    (first | rw [c30b0] | (simp only [i64_w, i32_w]; rw [c30b0]) | skip)
                    have H' := Aside0.mk H
                    clear H
                    go_wp2
                    go_meet
                    case rel => exact ⟨_, ((t124 == 4)), (by first | rfl | (simp; done) | (simp [*]; done)), H', ⟨by have := HJ2.out; first | omega | exact Nat.le_refl _⟩, ⟨by (with_reducible repeat (first | refine blk_drewN ?_ _ | refine blk_drew ?_ | refine blk_alloc ?_ _)); exact BK123.out⟩, ⟨by repeat (first | (with_reducible first | exact HB.out | apply below_alloc | apply pw_below_drewN | apply below_drew1 | refine below_set ?_ GE123.out) | exact HB.out)⟩⟩
                  · rw [if_neg c30] at H
                    have c30b0 : (t124 == 4) = false := beq_eq_false_iff_ne.mpr c30
                    have c30b1 : (t124 != 4) = true := bne_iff_ne.mpr c30
                    (first | rw [c30b0] | (simp only [i64_w, i32_w]; rw [c30b0]) | skip)
                    by_cases c31 : t124 = 6
                    · rw [if_pos c31] at H
                      have c31b0 : (t124 == 6) = true := beq_iff_eq.mpr c31
                      have c31b1 : (t124 != 6) = false := bne_eq_false_iff_eq.mpr c31
                      clear c31
                      have H' := Aside0.mk H
                      clear H
                      go_wp2
                      go_meet
                      case rel => exact ⟨_, ((t124 == 6)), (by first | rfl | (simp; done) | (simp [*]; done)), H', ⟨by have := HJ2.out; first | omega | exact Nat.le_refl _⟩, ⟨by (with_reducible repeat (first | refine blk_drewN ?_ _ | refine blk_drew ?_ | refine blk_alloc ?_ _)); exact BK123.out⟩, ⟨by repeat (first | (with_reducible first | exact HB.out | apply below_alloc | apply pw_below_drewN | apply below_drew1 | refine below_set ?_ GE123.out) | exact HB.out)⟩⟩
                    · rw [if_neg c31] at H
                      have c31b0 : (t124 == 6) = false := beq_eq_false_iff_ne.mpr c31
                      have c31b1 : (t124 != 6) = true := bne_iff_ne.mpr c31
                      by_cases c32 : t124 = 8
                      · rw [if_pos c32] at H
                        have c32b0 : (t124 == 8) = true := beq_iff_eq.mpr c32
                        have c32b1 : (t124 != 8) = false := bne_eq_false_iff_eq.mpr c32
                        clear c32
                        have H' := Aside0.mk H
                        clear H
                        go_wp2
                        go_meet
                        case rel => exact ⟨_, ((t124 == 8)), (by first | rfl | (simp; done) | (simp [*]; done)), H', ⟨by have := HJ2.out; first | omega | exact Nat.le_refl _⟩, ⟨by (with_reducible repeat (first | refine blk_drewN ?_ _ | refine blk_drew ?_ | refine blk_alloc ?_ _)); exact BK123.out⟩, ⟨by repeat (first | (with_reducible first | exact HB.out | apply below_alloc | apply pw_below_drewN | apply below_drew1 | refine below_set ?_ GE123.out) | exact HB.out)⟩⟩
                      · rw [if_neg c32] at H
                        have c32b0 : (t124 == 8) = false := beq_eq_false_iff_ne.mpr c32
                        have c32b1 : (t124 != 8) = true := bne_iff_ne.mpr c32
                        have H' := Aside0.mk H
                        clear H
                        go_wp2
                        go_meet
                        case rel => exact ⟨_, ((t124 == 9)), (by first | rfl | (simp; done) | (simp [*]; done)), H', ⟨by have := HJ2.out; first | omega | exact Nat.le_refl _⟩, ⟨by (with_reducible repeat (first | refine blk_drewN ?_ _ | refine blk_drew ?_ | refine blk_alloc ?_ _)); exact BK123.out⟩, ⟨by repeat (first | (with_reducible first | exact HB.out | apply below_alloc | apply pw_below_drewN | apply below_drew1 | refine below_set ?_ GE123.out) | exact HB.out)⟩⟩
                case rest =>
                  clear HC26
                  try clear c1
                  try clear p1
                  try clear q1
                  try clear hx1
                  try clear p2
                  try clear c3
                  try clear c4
                  try clear c4b0
                  try clear c5
                  try clear c6
                  try clear c6b0
                  try clear c7
                  try clear c7b0
                  try clear c9
                  try clear c9b0
                  try clear c9b1
                  try clear p12
                  try clear q12
                  try clear hx12
                  try clear c13
                  try clear c13b0
                  try clear c13b1
                  try clear c15
                  try clear c30
                  try clear c30b0
                  try clear c30b1
                  try clear c31
                  try clear c31b0
                  try clear c31b1
                  try clear c32
                  try clear c32b0
                  try clear c32b1
                  try clear hcz11_0
                  try clear hcz11_1
                  try clear hcz11_2
                  try clear hcz11_3
                  try clear hcz17_0
                  try clear hcz17_1
                  try clear hcz17_2
                  try clear hcz17_3
                  try clear hcz19_0
                  try clear hcz19_1
                  try clear hcz19_2
                  try clear hcz19_3
                  try clear hcz22_0
                  try clear hcz22_1
                  try clear hcz22_2
                  try clear hcz22_3
                  try clear hcz24_0
                  try clear hcz24_1
                  try clear hcz24_2
                  try clear hcz24_3
                  try clear hcz28_0
                  try clear hcz28_1
                  try clear hcz28_2
                  try clear hcz28_3
                  try clear hfz11_0
                  try clear hfz11_1
                  try clear hfz11_2
                  try clear hfz11_3
                  try clear hfz17_0
                  try clear hfz17_1
                  try clear hfz17_2
                  try clear hfz17_3
                  try clear hfz19_0
                  try clear hfz19_1
                  try clear hfz19_2
                  try clear hfz19_3
                  try clear hfz22_0
                  try clear hfz22_1
                  try clear hfz22_2
                  try clear hfz22_3
                  try clear hfz24_0
                  try clear hfz24_1
                  try clear hfz24_2
                  try clear hfz24_3
                  try clear hfz28_0
                  try clear hfz28_1
                  try clear hfz28_2
                  try clear hfz28_3
                  try clear hx122_0
                  try clear hx122_1
                  try clear hx122_2
                  try clear hx122_3
                  try clear p122
                  try clear p2
                  try clear q122
                  obtain ⟨kq, x36_25, rfl, HA, HJ25, BK123, HB⟩ := hcut
                  cases kq with
                  | zero => exact absurd HA.out (by simp [verify_Local.j1])
                  | succ kj25 =>
                    have H := HA.out
                    clear HA
                    simp only [verify_Local.j1] at H
                    by_cases c33 : x36_25 = true
                    · subst c33
                      have H1 : (if ((rd_T56 l0 a1).f3) ≥ 16 then (some 10) else (some 0)) = some r := by rw [if_pos rfl] at H; exact H
                      clear H
                      have H := H1
                      clear H1
                      by_cases c34 : ((rd_T56 l0 a1).f3) ≥ 16
                      · rw [if_pos c34] at H
                        have c34b0 : decide (16 ≤ ((rd_T56 l0 a1).f3)) = true := decide_eq_true c34
                        clear c34
                        obtain rfl := Option.some.inj H
                        have hcz35_0 : wc.cell? ⟨gb123, 0, none⟩ = some (.int .u16 ((rd_T56 l0 a1).f0)) := (blk_cell BK123.out 0).trans rfl
                        have hcz35_1 : wc.cell? ⟨gb123, 1, none⟩ = some (.int .u8 ((rd_T56 l0 a1).f1)) := (blk_cell BK123.out 1).trans rfl
                        have hcz35_2 : wc.cell? ⟨gb123, 2, none⟩ = some (.int .u8 ((rd_T56 l0 a1).f2)) := (blk_cell BK123.out 2).trans rfl
                        have hcz35_3 : wc.cell? ⟨gb123, 3, none⟩ = some (.int .u32 ((rd_T56 l0 a1).f3)) := (blk_cell BK123.out 3).trans rfl
                        have hfz35_0 := blk_frozen BK123.out 0
                        have hfz35_1 := blk_frozen BK123.out 1
                        have hfz35_2 := blk_frozen BK123.out 2
                        have hfz35_3 := blk_frozen BK123.out 3
                        go_wp2
                        go_ret
                        exact ⟨by first | rfl | (simp [errW_none, errW_some] <;> rfl) | (simp [*, errW_none, errW_some] <;> rfl), by repeat (first | (with_reducible first | exact HB.out | apply below_alloc | apply pw_below_drewN | apply below_drew1 | refine below_set ?_ GE123.out) | exact HB.out)⟩
                      · rw [if_neg c34] at H
                        have c34b0 : decide (16 ≤ ((rd_T56 l0 a1).f3)) = false := decide_eq_false c34
                        clear c34
                        obtain rfl := Option.some.inj H
                        have hcz36_0 : wc.cell? ⟨gb123, 0, none⟩ = some (.int .u16 ((rd_T56 l0 a1).f0)) := (blk_cell BK123.out 0).trans rfl
                        have hcz36_1 : wc.cell? ⟨gb123, 1, none⟩ = some (.int .u8 ((rd_T56 l0 a1).f1)) := (blk_cell BK123.out 1).trans rfl
                        have hcz36_2 : wc.cell? ⟨gb123, 2, none⟩ = some (.int .u8 ((rd_T56 l0 a1).f2)) := (blk_cell BK123.out 2).trans rfl
                        have hcz36_3 : wc.cell? ⟨gb123, 3, none⟩ = some (.int .u32 ((rd_T56 l0 a1).f3)) := (blk_cell BK123.out 3).trans rfl
                        have hfz36_0 := blk_frozen BK123.out 0
                        have hfz36_1 := blk_frozen BK123.out 1
                        have hfz36_2 := blk_frozen BK123.out 2
                        have hfz36_3 := blk_frozen BK123.out 3
                        go_wp2
                        go_ret
                        exact ⟨by first | rfl | (simp [errW_none, errW_some] <;> rfl) | (simp [*, errW_none, errW_some] <;> rfl), by repeat (first | (with_reducible first | exact HB.out | apply below_alloc | apply pw_below_drewN | apply below_drew1 | refine below_set ?_ GE123.out) | exact HB.out)⟩
                    · replace c33 := Bool.eq_false_iff.mpr c33
                      subst c33
                      have H1 : (if t124 = 10 then ((verify_alu.f kj25 ((rd_T56 l0 a1).f0) ((rd_T56 l0 a1).f1) ((rd_T56 l0 a1).f2) ((rd_T56 l0 a1).f3)).bind fun t127 => (some t127)) else (if t124 = 11 then ((verify_out.f kj25 l0 a1).bind fun t128 => (some t128)) else (if t124 = 12 then ((verify_out.f kj25 l0 a1).bind fun t129 => (some t129)) else (some 0)))) = some r := by rw [if_neg (show ¬ (false = true) by decide)] at H; exact H
                      clear H
                      have H := H1
                      clear H1
                      by_cases c37 : t124 = 10
                      · rw [if_pos c37] at H
                        have c37b0 : (t124 == 10) = true := beq_iff_eq.mpr c37
                        have c37b1 : (t124 != 10) = false := bne_eq_false_iff_eq.mpr c37
                        clear c37
                        replace H := Option.bind_eq_some_iff.mp H
                        obtain ⟨t127, A380, H⟩ := H
                        replace H : (some t127) = some r := H
                        have A38 := Aside0.mk A380
                        clear A380
                        obtain rfl := Option.some.inj H
                        have hcz39_0 : wc.cell? ⟨gb123, 0, none⟩ = some (.int .u16 ((rd_T56 l0 a1).f0)) := (blk_cell BK123.out 0).trans rfl
                        have hcz39_1 : wc.cell? ⟨gb123, 1, none⟩ = some (.int .u8 ((rd_T56 l0 a1).f1)) := (blk_cell BK123.out 1).trans rfl
                        have hcz39_2 : wc.cell? ⟨gb123, 2, none⟩ = some (.int .u8 ((rd_T56 l0 a1).f2)) := (blk_cell BK123.out 2).trans rfl
                        have hcz39_3 : wc.cell? ⟨gb123, 3, none⟩ = some (.int .u32 ((rd_T56 l0 a1).f3)) := (blk_cell BK123.out 3).trans rfl
                        have hfz39_0 := blk_frozen BK123.out 0
                        have hfz39_1 := blk_frozen BK123.out 1
                        have hfz39_2 := blk_frozen BK123.out 2
                        have hfz39_3 := blk_frozen BK123.out 3
                        go_wp2_with (first | ((with_reducible refine gate_callee (f := 80) rfl ?_); refine goesL_ (some 47) rfl rfl Try.func80 (by kernel_rfl) rfl #[.agg #[.int .u16 ((rd_T56 l0 a1).f0), .int .u8 ((rd_T56 l0 a1).f1), .int .u8 ((rd_T56 l0 a1).f2), .int .u32 ((rd_T56 l0 a1).f3)]] rfl (by (try simp only [List.map_toArray, List.map_cons, List.map_nil]); first | done | rfl | (simp only [List.length_drop, List.length_take]; rfl)) ?_; (with_reducible refine (verify_alu.calls kj25 ((rd_T56 l0 a1).f0) ((rd_T56 l0 a1).f1) ((rd_T56 l0 a1).f2) ((rd_T56 l0 a1).f3) t127 _ A38.out).mono ?_); rintro e w40 ⟨rfl, hb⟩; refine ⟨_, rfl, ?_⟩; have n0_ := Aside0.mk (blk_below (g := gb123) (o := .cells #[.int .u16 ((rd_T56 l0 a1).f0), .int .u8 ((rd_T56 l0 a1).f1), .int .u8 ((rd_T56 l0 a1).f2), .int .u32 ((rd_T56 l0 a1).f3)] 56 (0, 0)) (by (with_reducible repeat (first | refine blk_drewN ?_ _ | refine blk_drew ?_ | refine blk_alloc ?_ _)); exact BK123.out) hb); have n1_ := Aside0.mk (below_step (by repeat (first | (with_reducible first | exact HB.out | apply below_alloc | apply pw_below_drewN | apply below_drew1 | refine below_set ?_ GE123.out) | exact HB.out)) hb); clear BK123; clear HB; have BK123 := n0_; have HB := n1_; clear n0_ n1_; (try clear hb); (try clear hb2); (try clear hk); (try clear hi)))
                        go_ret
                        exact ⟨by first | rfl | (simp [errW_none, errW_some] <;> rfl) | (simp [*, errW_none, errW_some] <;> rfl), by repeat (first | (with_reducible first | exact HB.out | apply below_alloc | apply pw_below_drewN | apply below_drew1 | refine below_set ?_ GE123.out) | exact HB.out)⟩
                      · rw [if_neg c37] at H
                        have c37b0 : (t124 == 10) = false := beq_eq_false_iff_ne.mpr c37
                        have c37b1 : (t124 != 10) = true := bne_iff_ne.mpr c37
                        by_cases c41 : t124 = 11
                        · rw [if_pos c41] at H
                          have c41b0 : (t124 == 11) = true := beq_iff_eq.mpr c41
                          have c41b1 : (t124 != 11) = false := bne_eq_false_iff_eq.mpr c41
                          clear c41
                          replace H := Option.bind_eq_some_iff.mp H
                          obtain ⟨t128, A420, H⟩ := H
                          replace H : (some t128) = some r := H
                          have A42 := Aside0.mk A420
                          clear A420
                          obtain rfl := Option.some.inj H
                          go_wp2_with (first | ((with_reducible refine gate_callee (f := 81) rfl ?_); refine goesL_ (some 53) rfl rfl Try.func81 (by kernel_rfl) rfl #[.slice (some ad122) l0.length c0, .int .i64 a1] rfl (by (try simp only [List.map_toArray, List.map_cons, List.map_nil]); first | done | rfl | (simp only [List.length_drop, List.length_take]; rfl)) ?_; (with_reducible refine (verify_out.calls kj25 _ _ l0 a1 t128 _ ?side1 ?side2 A42.out).mono ?_); (case side1 => repeat (first | exact (Kd.C_below HR0.out HB.out) | (with_reducible refine Kd.C_alloc ?_ _) | (with_reducible refine Kd.C_drewN ?_ _) | (with_reducible refine Kd.C_drew ?_))); (case side2 => exact HC0.out); rintro e w43 ⟨rfl, hb⟩; refine ⟨_, rfl, ?_⟩; have n0_ := Aside0.mk (blk_below (g := gb123) (o := .cells #[.int .u16 ((rd_T56 l0 a1).f0), .int .u8 ((rd_T56 l0 a1).f1), .int .u8 ((rd_T56 l0 a1).f2), .int .u32 ((rd_T56 l0 a1).f3)] 56 (0, 0)) (by (with_reducible repeat (first | refine blk_drewN ?_ _ | refine blk_drew ?_ | refine blk_alloc ?_ _)); exact BK123.out) hb); have n1_ := Aside0.mk (below_step (by repeat (first | (with_reducible first | exact HB.out | apply below_alloc | apply pw_below_drewN | apply below_drew1 | refine below_set ?_ GE123.out) | exact HB.out)) hb); clear BK123; clear HB; have BK123 := n0_; have HB := n1_; clear n0_ n1_; (try clear hb); (try clear hb2); (try clear hk); (try clear hi)))
                          go_ret
                          exact ⟨by first | rfl | (simp [errW_none, errW_some] <;> rfl) | (simp [*, errW_none, errW_some] <;> rfl), by repeat (first | (with_reducible first | exact HB.out | apply below_alloc | apply pw_below_drewN | apply below_drew1 | refine below_set ?_ GE123.out) | exact HB.out)⟩
                        · rw [if_neg c41] at H
                          have c41b0 : (t124 == 11) = false := beq_eq_false_iff_ne.mpr c41
                          have c41b1 : (t124 != 11) = true := bne_iff_ne.mpr c41
                          by_cases c44 : t124 = 12
                          · rw [if_pos c44] at H
                            have c44b0 : (t124 == 12) = true := beq_iff_eq.mpr c44
                            have c44b1 : (t124 != 12) = false := bne_eq_false_iff_eq.mpr c44
                            clear c44
                            replace H := Option.bind_eq_some_iff.mp H
                            obtain ⟨t129, A450, H⟩ := H
                            replace H : (some t129) = some r := H
                            have A45 := Aside0.mk A450
                            clear A450
                            obtain rfl := Option.some.inj H
                            go_wp2_with (first | ((with_reducible refine gate_callee (f := 81) rfl ?_); refine goesL_ (some 53) rfl rfl Try.func81 (by kernel_rfl) rfl #[.slice (some ad122) l0.length c0, .int .i64 a1] rfl (by (try simp only [List.map_toArray, List.map_cons, List.map_nil]); first | done | rfl | (simp only [List.length_drop, List.length_take]; rfl)) ?_; (with_reducible refine (verify_out.calls kj25 _ _ l0 a1 t129 _ ?side1 ?side2 A45.out).mono ?_); (case side1 => repeat (first | exact (Kd.C_below HR0.out HB.out) | (with_reducible refine Kd.C_alloc ?_ _) | (with_reducible refine Kd.C_drewN ?_ _) | (with_reducible refine Kd.C_drew ?_))); (case side2 => exact HC0.out); rintro e w46 ⟨rfl, hb⟩; refine ⟨_, rfl, ?_⟩; have n0_ := Aside0.mk (blk_below (g := gb123) (o := .cells #[.int .u16 ((rd_T56 l0 a1).f0), .int .u8 ((rd_T56 l0 a1).f1), .int .u8 ((rd_T56 l0 a1).f2), .int .u32 ((rd_T56 l0 a1).f3)] 56 (0, 0)) (by (with_reducible repeat (first | refine blk_drewN ?_ _ | refine blk_drew ?_ | refine blk_alloc ?_ _)); exact BK123.out) hb); have n1_ := Aside0.mk (below_step (by repeat (first | (with_reducible first | exact HB.out | apply below_alloc | apply pw_below_drewN | apply below_drew1 | refine below_set ?_ GE123.out) | exact HB.out)) hb); clear BK123; clear HB; have BK123 := n0_; have HB := n1_; clear n0_ n1_; (try clear hb); (try clear hb2); (try clear hk); (try clear hi)))
                            go_ret
                            exact ⟨by first | rfl | (simp [errW_none, errW_some] <;> rfl) | (simp [*, errW_none, errW_some] <;> rfl), by repeat (first | (with_reducible first | exact HB.out | apply below_alloc | apply pw_below_drewN | apply below_drew1 | refine below_set ?_ GE123.out) | exact HB.out)⟩
                          · rw [if_neg c44] at H
                            have c44b0 : (t124 == 12) = false := beq_eq_false_iff_ne.mpr c44
                            have c44b1 : (t124 != 12) = true := bne_iff_ne.mpr c44
                            obtain rfl := Option.some.inj H
                            go_wp2
                            go_ret
                            exact ⟨by first | rfl | (simp [errW_none, errW_some] <;> rfl) | (simp [*, errW_none, errW_some] <;> rfl), by repeat (first | (with_reducible first | exact HB.out | apply below_alloc | apply pw_below_drewN | apply below_drew1 | refine below_set ?_ GE123.out) | exact HB.out)⟩
          · rw [if_neg c7] at H
            exact absurd H (by simp)
        · rw [if_neg c6] at H
          exact absurd H (by simp)

/-! ### verify_whole: function 76 -/
def verify_whole.l0 : Nat → List (S56) → Int → Int → Option (Int × Int)
  | 0, _, _, _ => none
  | k + 1, x0, x15, x16 => if x16 < x15 then ((verify_Local.f k x0 x16).bind fun t130 => (if t130 = 0 then (verify_whole.l0 k x0 x15 (wrap64 (x16 + 1))) else (some (x16, t130)))) else (some (0, 0))
def verify_whole.f (k : Nat) (l0 : List (S56)) : Option (Int × Int) := if (l0.length : Int) = 0 then (some (0, 4)) else (if (l0.length : Int) > 4096 then (some (0, 5)) else (verify_whole.l0 k l0 (l0.length : Int) 0))
theorem verify_whole.mono_l : ∀ k, (∀ y0 y1 y2, LeO (verify_whole.l0 k y0 y1 y2) (verify_whole.l0 (k + 1) y0 y1 y2))
  | 0 => fun _ _ _ r h => by simp [verify_whole.l0] at h
  | k + 1 => by
    have ih0 := verify_whole.mono_l k
    · intro y0 y1 y2
      unfold verify_whole.l0
      repeat' first
      | (with_reducible exact ih0 _ _ _)
      | (with_reducible exact verify_Local.mono _ _ _)
      | (with_reducible exact LeO.refl _)
      | (with_reducible exact LeO.none _)
      | (with_reducible refine LeO.ite ?_ ?_)
      | (with_reducible refine LeO.bind ?_ (fun _ => ?_))
      | exact ih0 _ _ _
      | exact verify_Local.mono _ _ _
      | exact LeO.none _
      | refine LeO.ite ?_ ?_
      | refine LeO.bind ?_ (fun _ => ?_)
theorem verify_whole.mono : ∀ a0 k, LeO (verify_whole.f k a0) (verify_whole.f (k + 1) a0) := by
  intro a0 k
  have ih0 := verify_whole.mono_l k
  unfold verify_whole.f
  repeat' first
      | (with_reducible exact ih0 _ _ _)
      | (with_reducible exact verify_Local.mono _ _ _)
      | (with_reducible exact LeO.refl _)
      | (with_reducible exact LeO.none _)
      | (with_reducible refine LeO.ite ?_ ?_)
      | (with_reducible refine LeO.bind ?_ (fun _ => ?_))
      | exact ih0 _ _ _
      | exact verify_Local.mono _ _ _
      | exact LeO.none _
      | refine LeO.ite ?_ ?_
      | refine LeO.bind ?_ (fun _ => ?_)
set_option maxHeartbeats 8000000 in
set_option maxRecDepth 100000 in
theorem verify_whole.calls (k : Nat) (A0 : Option Addr) (c0 : Nat) (l0 : List (S56)) (r1 : Int) (r2 : Int) (w : World) (hr0 : Kd.C k56 w A0 l0.length l0) (hc0 : l0.length ≤ c0) (h : verify_whole.f k l0 = some (r1, r2)) :
    Calls Try.prog 76 #[.slice A0 l0.length c0] w fun e w' => e = .returned (.tuple #[.int .i64 r1, .int .i64 r2]) ∧ Below w.heap.size w w' := by
  have HR0 := Aside0.mk hr0
  have HC0 := Aside0.mk hc0
  clear hr0 hc0
  have HB := Aside0.mk (Below.refl w.heap.size w)
  have H : (if (l0.length : Int) = 0 then (some (0, 4)) else (if (l0.length : Int) > 4096 then (some (0, 5)) else (verify_whole.l0 k l0 (l0.length : Int) 0))) = some (r1, r2) := h
  clear h
  by_cases c2 : (l0.length : Int) = 0
  · rw [if_pos c2] at H
    have c2b0 : ((l0.length : Int) == 0) = true := beq_iff_eq.mpr c2
    have c2b1 : ((l0.length : Int) != 0) = false := bne_eq_false_iff_eq.mpr c2
    clear c2
    simp only [Option.some.injEq, Prod.mk.injEq] at H
    obtain ⟨rfl, rfl⟩ := H
    go_enter Try.func76, Try.ntmps76
    go_wp2
    go_ret2
    exact ⟨by first | rfl | (simp [errW_none, errW_some] <;> rfl) | (simp [*, errW_none, errW_some] <;> rfl), by repeat (first | (with_reducible first | exact HB.out | apply below_alloc | apply pw_below_drewN | apply below_drew1) | exact HB.out)⟩
  · rw [if_neg c2] at H
    have c2b0 : ((l0.length : Int) == 0) = false := beq_eq_false_iff_ne.mpr c2
    have c2b1 : ((l0.length : Int) != 0) = true := bne_iff_ne.mpr c2
    have c2b2 : ¬ (l0 = []) := fun h_ => c2 (by rw [h_]; rfl)
    by_cases c3 : (l0.length : Int) > 4096
    · rw [if_pos c3] at H
      have c3b0 : decide (4096 < (l0.length : Int)) = true := decide_eq_true c3
      have c3b1 : decide (4096 < l0.length) = true := decide_eq_true (by omega)
      clear c3
      simp only [Option.some.injEq, Prod.mk.injEq] at H
      obtain ⟨rfl, rfl⟩ := H
      go_enter Try.func76, Try.ntmps76
      go_wp2
      go_ret2
      exact ⟨by first | rfl | (simp [errW_none, errW_some] <;> rfl) | (simp [*, errW_none, errW_some] <;> rfl), by repeat (first | (with_reducible first | exact HB.out | apply below_alloc | apply pw_below_drewN | apply below_drew1) | exact HB.out)⟩
    · rw [if_neg c3] at H
      have c3b0 : decide (4096 < (l0.length : Int)) = false := decide_eq_false c3
      have c3b1 : decide (4096 < l0.length) = false := decide_eq_false (by omega)
      clear c3
      have H' := Aside0.mk H
      clear H
      go_enter Try.func76, Try.ntmps76
      go_wp2
      go_loopg [16] k (fun kq v16 w' => ∃ (x16_1 : Int), v16 = .int .i64 x16_1 ∧ Aside0 (verify_whole.l0 kq l0 (l0.length : Int) x16_1 = some (r1, r2)) ∧ Aside0 (kq ≤ k) ∧ Aside0 (Below w.heap.size w w'))
      case atStart => exact ⟨(0), (by first | rfl | (simp; done) | (simp [*]; done)), H', ⟨Nat.le_refl _⟩, ⟨by repeat (first | (with_reducible first | exact HB.out | apply below_alloc | apply pw_below_drewN | apply below_drew1) | exact HB.out)⟩⟩
      case round =>
        clear H'
        try clear c2
        try clear c2b0
        try clear c2b1
        try clear c2b2
        try clear p2
        try clear c3
        try clear c3b0
        try clear c3b1
        obtain ⟨x16_1, rfl, HA, HK1, HB⟩ := hrel
        cases gk with
        | zero => exact absurd HA.out (by simp [verify_whole.l0])
        | succ k1 =>
          have H := HA.out
          clear HA
          simp only [verify_whole.l0] at H
          by_cases c4 : x16_1 < (l0.length : Int)
          · rw [if_pos c4] at H
            have c4b0 : decide (x16_1 < (l0.length : Int)) = true := decide_eq_true c4
            clear c4
            replace H := Option.bind_eq_some_iff.mp H
            obtain ⟨t130, A50, H⟩ := H
            replace H : (if t130 = 0 then (verify_whole.l0 k1 l0 (l0.length : Int) (wrap64 (x16_1 + 1))) else (some (x16_1, t130))) = some (r1, r2) := H
            have A5 := Aside0.mk A50
            clear A50
            by_cases c6 : t130 = 0
            · rw [if_pos c6] at H
              have c6b0 : (t130 == 0) = true := beq_iff_eq.mpr c6
              have c6b1 : (t130 != 0) = false := bne_eq_false_iff_eq.mpr c6
              clear c6
              have H' := Aside0.mk H
              clear H
              go_wp2_with (first | ((with_reducible refine gate_callee (f := 41) rfl ?_); refine goesL_ (some 21) rfl rfl Try.func41 (by kernel_rfl) rfl #[.slice A0 l0.length c0, .int .i64 x16_1] rfl (by (try simp only [List.map_toArray, List.map_cons, List.map_nil]); first | done | rfl | (simp only [List.length_drop, List.length_take]; rfl)) ?_; (with_reducible refine (verify_Local.calls k1 _ _ l0 x16_1 t130 _ ?side1 ?side2 A5.out).mono ?_); (case side1 => repeat (first | exact (Kd.C_below HR0.out HB.out) | (with_reducible refine Kd.C_alloc ?_ _) | (with_reducible refine Kd.C_drewN ?_ _) | (with_reducible refine Kd.C_drew ?_))); (case side2 => exact HC0.out); rintro e w7 ⟨rfl, hb⟩; refine ⟨_, rfl, ?_⟩; have n0_ := Aside0.mk (below_step (by repeat (first | (with_reducible first | exact HB.out | apply below_alloc | apply pw_below_drewN | apply below_drew1) | exact HB.out)) hb); clear HB; have HB := n0_; clear n0_; (try clear hb); (try clear hb2); (try clear hk); (try clear hi)))
              go_roundg k1
              case measure => have := HK1.out; omega
              case rel => exact ⟨(wrap64 (x16_1 + 1)), (by first | rfl | (simp; done) | (simp [*]; done)), H', ⟨by have := HK1.out; omega⟩, ⟨by repeat (first | (with_reducible first | exact HB.out | apply below_alloc | apply pw_below_drewN | apply below_drew1) | exact HB.out)⟩⟩
            · rw [if_neg c6] at H
              have c6b0 : (t130 == 0) = false := beq_eq_false_iff_ne.mpr c6
              have c6b1 : (t130 != 0) = true := bne_iff_ne.mpr c6
              simp only [Option.some.injEq, Prod.mk.injEq] at H
              obtain ⟨rfl, rfl⟩ := H
              go_wp2_with (first | ((with_reducible refine gate_callee (f := 41) rfl ?_); refine goesL_ (some 21) rfl rfl Try.func41 (by kernel_rfl) rfl #[.slice A0 l0.length c0, .int .i64 x16_1] rfl (by (try simp only [List.map_toArray, List.map_cons, List.map_nil]); first | done | rfl | (simp only [List.length_drop, List.length_take]; rfl)) ?_; (with_reducible refine (verify_Local.calls k1 _ _ l0 x16_1 t130 _ ?side1 ?side2 A5.out).mono ?_); (case side1 => repeat (first | exact (Kd.C_below HR0.out HB.out) | (with_reducible refine Kd.C_alloc ?_ _) | (with_reducible refine Kd.C_drewN ?_ _) | (with_reducible refine Kd.C_drew ?_))); (case side2 => exact HC0.out); rintro e w8 ⟨rfl, hb⟩; refine ⟨_, rfl, ?_⟩; have n0_ := Aside0.mk (below_step (by repeat (first | (with_reducible first | exact HB.out | apply below_alloc | apply pw_below_drewN | apply below_drew1) | exact HB.out)) hb); clear HB; have HB := n0_; clear n0_; (try clear hb); (try clear hb2); (try clear hk); (try clear hi)))
              go_ret2
              exact ⟨by first | rfl | (simp [errW_none, errW_some] <;> rfl) | (simp [*, errW_none, errW_some] <;> rfl), by repeat (first | (with_reducible first | exact HB.out | apply below_alloc | apply pw_below_drewN | apply below_drew1) | exact HB.out)⟩
          · rw [if_neg c4] at H
            have c4b0 : decide (x16_1 < (l0.length : Int)) = false := decide_eq_false c4
            clear c4
            simp only [Option.some.injEq, Prod.mk.injEq] at H
            obtain ⟨rfl, rfl⟩ := H
            go_wp2
            go_ret2
            exact ⟨by first | rfl | (simp [errW_none, errW_some] <;> rfl) | (simp [*, errW_none, errW_some] <;> rfl), by repeat (first | (with_reducible first | exact HB.out | apply below_alloc | apply pw_below_drewN | apply below_drew1) | exact HB.out)⟩

end Go.Proofs.Ytmjpibeiglicdaa.X
