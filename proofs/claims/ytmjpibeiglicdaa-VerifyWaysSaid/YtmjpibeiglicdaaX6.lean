/- Functions of the program as plain Lean functions, and their contracts; written by a program out of the translation. -/
import Derived.Test.YtmjpibeiglicdaaX0
import Derived.Test.YtmjpibeiglicdaaX5
namespace Go.Proofs.Ytmjpibeiglicdaa.X
open Go.RowKit Go.Proofs.YtmjpibeiglicdaaW.PrintWords Go.Proofs.YtmjpibeiglicdaaW.PrintLast Go.Proofs.YtmjpibeiglicdaaW.PrintMore
attribute [local go_sem] max2_int min2_int max_two min_two max_three min_three max_four min_four   -- for this text's walks alone
set_option linter.unusedVariables false
set_option linter.unusedSimpArgs false

/-! ### tamisref06_Local: function 42 -/
mutual
def tamisref06_Local.j0 : Nat → List (S56) → Int → Bool → Option (Int)
  | 0, _, _, _ => none
  | k + 1, x0, x1, x15 => if x15 = true then (some 2) else (if 0 ≤ x1 then (if x1 < (x0.length : Int) then ((tamisref04_Kind.f k ((rd_T56 x0 x1).f0)).bind fun t178 => (if t178 = 0 then (some 6) else (if t178 = 1 then (if ((rd_T56 x0 x1).f3) ≥ 64 then (some 11) else (if (Int.tmod ((rd_T56 x0 x1).f3) 4) = 0 then (some 0) else (some 11))) else (if t178 = 4 then (tamisref06_Local.j1 k (IntKind.u64.wrap ((x0.length : Int))) (IntKind.u64.wrap ((IntKind.u64.wrap (x1)) + 1)) t178 (t178 == 4) ((rd_T56 x0 x1).f0) ((rd_T56 x0 x1).f1) ((rd_T56 x0 x1).f2) ((rd_T56 x0 x1).f3)) else (if t178 = 6 then (tamisref06_Local.j1 k (IntKind.u64.wrap ((x0.length : Int))) (IntKind.u64.wrap ((IntKind.u64.wrap (x1)) + 1)) t178 (t178 == 6) ((rd_T56 x0 x1).f0) ((rd_T56 x0 x1).f1) ((rd_T56 x0 x1).f2) ((rd_T56 x0 x1).f3)) else (if t178 = 8 then (tamisref06_Local.j1 k (IntKind.u64.wrap ((x0.length : Int))) (IntKind.u64.wrap ((IntKind.u64.wrap (x1)) + 1)) t178 (t178 == 8) ((rd_T56 x0 x1).f0) ((rd_T56 x0 x1).f1) ((rd_T56 x0 x1).f2) ((rd_T56 x0 x1).f3)) else (tamisref06_Local.j1 k (IntKind.u64.wrap ((x0.length : Int))) (IntKind.u64.wrap ((IntKind.u64.wrap (x1)) + 1)) t178 (t178 == 9) ((rd_T56 x0 x1).f0) ((rd_T56 x0 x1).f1) ((rd_T56 x0 x1).f2) ((rd_T56 x0 x1).f3)))))))) else (none)) else (none))
def tamisref06_Local.j1 : Nat → Int → Int → Int → Bool → Int → Int → Int → Int → Option (Int)
  | 0, _, _, _, _, _, _, _, _ => none
  | k + 1, x6, x7, x28, x42, x178000, x178001, x178002, x178003 => if x42 = true then (if x178003 ≥ 16 then (some 10) else (some 0)) else (if x28 = 10 then (if x178000 = 52 then (tamisref06_Local.j2 k (x178003 == 0) x178000 x178001 x178002 x178003) else (tamisref06_Local.j2 k false x178000 x178001 x178002 x178003)) else (if x28 = 11 then (if (IntKind.u64.wrap (x7 + (IntKind.u64.wrap (x178003)))) ≥ x6 then (some 7) else (some 0)) else (if x28 = 12 then (if (IntKind.u64.wrap (x7 + (IntKind.u64.wrap (x178001)))) ≥ x6 then (some 7) else (if (IntKind.u64.wrap (x7 + (IntKind.u64.wrap (x178002)))) ≥ x6 then (some 7) else (some 0))) else (some 0))))
def tamisref06_Local.j2 : Nat → Bool → Int → Int → Int → Int → Option (Int)
  | 0, _, _, _, _, _ => none
  | k + 1, x59, x178000, x178001, x178002, x178003 => if x59 = true then (some 8) else (if x178000 = 100 then (if x178003 ≥ 32 then (some 9) else (some 0)) else (if x178000 = 116 then (if x178003 ≥ 32 then (some 9) else (some 0)) else (some 0)))
end
def tamisref06_Local.f (k : Nat) (l0 : List (S56)) (a1 : Int) : Option (Int) := if a1 < 0 then (tamisref06_Local.j0 k l0 a1 true) else (tamisref06_Local.j0 k l0 a1 (decide (a1 ≥ (l0.length : Int))))
theorem tamisref06_Local.mono_l : ∀ k, (∀ y0 y1 y2, LeO (tamisref06_Local.j0 k y0 y1 y2) (tamisref06_Local.j0 (k + 1) y0 y1 y2)) ∧ (∀ y0 y1 y2 y3 y4 y5 y6 y7, LeO (tamisref06_Local.j1 k y0 y1 y2 y3 y4 y5 y6 y7) (tamisref06_Local.j1 (k + 1) y0 y1 y2 y3 y4 y5 y6 y7)) ∧ (∀ y0 y1 y2 y3 y4, LeO (tamisref06_Local.j2 k y0 y1 y2 y3 y4) (tamisref06_Local.j2 (k + 1) y0 y1 y2 y3 y4))
  | 0 => ⟨fun _ _ _ r h => by simp [tamisref06_Local.j0] at h, fun _ _ _ _ _ _ _ _ r h => by simp [tamisref06_Local.j1] at h, fun _ _ _ _ _ r h => by simp [tamisref06_Local.j2] at h⟩
  | k + 1 => by
    obtain ⟨ih0, ih1, ih2⟩ := tamisref06_Local.mono_l k
    refine ⟨?_, ?_, ?_⟩
    · intro y0 y1 y2
      unfold tamisref06_Local.j0
      repeat' first
      | (with_reducible exact ih0 _ _ _)
      | (with_reducible exact ih1 _ _ _ _ _ _ _ _)
      | (with_reducible exact ih2 _ _ _ _ _)
      | (with_reducible exact tamisref04_Kind.mono _ _)
      | (with_reducible exact LeO.refl _)
      | (with_reducible exact LeO.none _)
      | (with_reducible refine LeO.ite ?_ ?_)
      | (with_reducible refine LeO.bind ?_ (fun _ => ?_))
      | exact ih0 _ _ _
      | exact ih1 _ _ _ _ _ _ _ _
      | exact ih2 _ _ _ _ _
      | exact tamisref04_Kind.mono _ _
      | exact LeO.none _
      | refine LeO.ite ?_ ?_
      | refine LeO.bind ?_ (fun _ => ?_)
    · intro y0 y1 y2 y3 y4 y5 y6 y7
      unfold tamisref06_Local.j1
      repeat' first
      | (with_reducible exact ih0 _ _ _)
      | (with_reducible exact ih1 _ _ _ _ _ _ _ _)
      | (with_reducible exact ih2 _ _ _ _ _)
      | (with_reducible exact tamisref04_Kind.mono _ _)
      | (with_reducible exact LeO.refl _)
      | (with_reducible exact LeO.none _)
      | (with_reducible refine LeO.ite ?_ ?_)
      | (with_reducible refine LeO.bind ?_ (fun _ => ?_))
      | exact ih0 _ _ _
      | exact ih1 _ _ _ _ _ _ _ _
      | exact ih2 _ _ _ _ _
      | exact tamisref04_Kind.mono _ _
      | exact LeO.none _
      | refine LeO.ite ?_ ?_
      | refine LeO.bind ?_ (fun _ => ?_)
    · intro y0 y1 y2 y3 y4
      unfold tamisref06_Local.j2
      repeat' first
      | (with_reducible exact ih0 _ _ _)
      | (with_reducible exact ih1 _ _ _ _ _ _ _ _)
      | (with_reducible exact ih2 _ _ _ _ _)
      | (with_reducible exact tamisref04_Kind.mono _ _)
      | (with_reducible exact LeO.refl _)
      | (with_reducible exact LeO.none _)
      | (with_reducible refine LeO.ite ?_ ?_)
      | (with_reducible refine LeO.bind ?_ (fun _ => ?_))
      | exact ih0 _ _ _
      | exact ih1 _ _ _ _ _ _ _ _
      | exact ih2 _ _ _ _ _
      | exact tamisref04_Kind.mono _ _
      | exact LeO.none _
      | refine LeO.ite ?_ ?_
      | refine LeO.bind ?_ (fun _ => ?_)
theorem tamisref06_Local.mono : ∀ a0 a1 k, LeO (tamisref06_Local.f k a0 a1) (tamisref06_Local.f (k + 1) a0 a1) := by
  intro a0 a1 k
  obtain ⟨ih0, ih1, ih2⟩ := tamisref06_Local.mono_l k
  unfold tamisref06_Local.f
  repeat' first
      | (with_reducible exact ih0 _ _ _)
      | (with_reducible exact ih1 _ _ _ _ _ _ _ _)
      | (with_reducible exact ih2 _ _ _ _ _)
      | (with_reducible exact tamisref04_Kind.mono _ _)
      | (with_reducible exact LeO.refl _)
      | (with_reducible exact LeO.none _)
      | (with_reducible refine LeO.ite ?_ ?_)
      | (with_reducible refine LeO.bind ?_ (fun _ => ?_))
      | exact ih0 _ _ _
      | exact ih1 _ _ _ _ _ _ _ _
      | exact ih2 _ _ _ _ _
      | exact tamisref04_Kind.mono _ _
      | exact LeO.none _
      | refine LeO.ite ?_ ?_
      | refine LeO.bind ?_ (fun _ => ?_)
set_option maxHeartbeats 8000000 in
set_option maxRecDepth 100000 in
theorem tamisref06_Local.calls (k : Nat) (A0 : Option Addr) (c0 : Nat) (l0 : List (S56)) (a1 : Int) (r : Int) (w : World) (hr0 : Kd.C k56 w A0 l0.length l0) (hc0 : l0.length ≤ c0) (h : tamisref06_Local.f k l0 a1 = some r) :
    Calls Try.prog 42 #[.slice A0 l0.length c0, .int .i64 a1] w fun e w' => e = .returned (.int .i64 r) ∧ Below w.heap.size w w' := by
  have hu56 := Try.underlying56
  have HR0 := Aside0.mk hr0
  have HC0 := Aside0.mk hc0
  clear hr0 hc0
  have HB := Aside0.mk (Below.refl w.heap.size w)
  have H : (if a1 < 0 then (tamisref06_Local.j0 k l0 a1 true) else (tamisref06_Local.j0 k l0 a1 (decide (a1 ≥ (l0.length : Int))))) = some r := h
  clear h
  have HC3 := Aside0.mk H
  clear H
  go_enter Try.func42, Try.ntmps42
  go_upto_region 1 with (fail)
  go_cut [15] (fun v15 wc => ∃ (kq : Nat) (x15_2 : Bool), v15 = .bool x15_2 ∧ Aside0 (tamisref06_Local.j0 kq l0 a1 x15_2 = some r) ∧ Aside0 (kq ≤ k) ∧ Aside0 (Below w.heap.size w wc))
  case first =>
    have H := HC3.out
    clear HC3
    by_cases c4 : a1 < 0
    · rw [if_pos c4] at H
      have c4b0 : decide (a1 < 0) = true := decide_eq_true c4
      clear c4
      (first | rw [c4b0] | (simp only [i64_w, i32_w]; rw [c4b0]) | skip)
      have H' := Aside0.mk H
      clear H
      go_wp2
      go_meet
      case rel => exact ⟨_, (true), (by first | rfl | (simp; done) | (simp [*]; done)), H', ⟨by first | omega | exact Nat.le_refl _⟩, ⟨by repeat (first | (with_reducible first | exact HB.out | apply below_alloc | apply pw_below_drewN | apply below_drew1) | exact HB.out)⟩⟩
    · rw [if_neg c4] at H
      have c4b0 : decide (a1 < 0) = false := decide_eq_false c4
      clear c4
      (first | rw [c4b0] | (simp only [i64_w, i32_w]; rw [c4b0]) | skip)
      have H' := Aside0.mk H
      clear H
      go_wp2
      go_meet
      case rel => exact ⟨_, (decide (a1 ≥ (l0.length : Int))), (by first | rfl | (simp; done) | (simp [*]; done)), H', ⟨by first | omega | exact Nat.le_refl _⟩, ⟨by repeat (first | (with_reducible first | exact HB.out | apply below_alloc | apply pw_below_drewN | apply below_drew1) | exact HB.out)⟩⟩
  case rest =>
    clear HC3
    try clear p2
    try clear c4
    try clear c4b0
    obtain ⟨kq, x15_2, rfl, HA, HJ2, HB⟩ := hcut
    cases kq with
    | zero => exact absurd HA.out (by simp [tamisref06_Local.j0])
    | succ kj2 =>
      have H := HA.out
      clear HA
      simp only [tamisref06_Local.j0] at H
      by_cases c5 : x15_2 = true
      · subst c5
        have H1 : (some 2) = some r := by rw [if_pos rfl] at H; exact H
        clear H
        have H := H1
        clear H1
        obtain rfl := Option.some.inj H
        go_wp2
        go_ret
        exact ⟨by first | rfl | (simp [errW_none, errW_some] <;> rfl) | (simp [*, errW_none, errW_some] <;> rfl), by repeat (first | (with_reducible first | exact HB.out | apply below_alloc | apply pw_below_drewN | apply below_drew1) | exact HB.out)⟩
      · replace c5 := Bool.eq_false_iff.mpr c5
        subst c5
        have H1 : (if 0 ≤ a1 then (if a1 < (l0.length : Int) then ((tamisref04_Kind.f kj2 ((rd_T56 l0 a1).f0)).bind fun t178 => (if t178 = 0 then (some 6) else (if t178 = 1 then (if ((rd_T56 l0 a1).f3) ≥ 64 then (some 11) else (if (Int.tmod ((rd_T56 l0 a1).f3) 4) = 0 then (some 0) else (some 11))) else (if t178 = 4 then (tamisref06_Local.j1 kj2 (IntKind.u64.wrap ((l0.length : Int))) (IntKind.u64.wrap ((IntKind.u64.wrap (a1)) + 1)) t178 (t178 == 4) ((rd_T56 l0 a1).f0) ((rd_T56 l0 a1).f1) ((rd_T56 l0 a1).f2) ((rd_T56 l0 a1).f3)) else (if t178 = 6 then (tamisref06_Local.j1 kj2 (IntKind.u64.wrap ((l0.length : Int))) (IntKind.u64.wrap ((IntKind.u64.wrap (a1)) + 1)) t178 (t178 == 6) ((rd_T56 l0 a1).f0) ((rd_T56 l0 a1).f1) ((rd_T56 l0 a1).f2) ((rd_T56 l0 a1).f3)) else (if t178 = 8 then (tamisref06_Local.j1 kj2 (IntKind.u64.wrap ((l0.length : Int))) (IntKind.u64.wrap ((IntKind.u64.wrap (a1)) + 1)) t178 (t178 == 8) ((rd_T56 l0 a1).f0) ((rd_T56 l0 a1).f1) ((rd_T56 l0 a1).f2) ((rd_T56 l0 a1).f3)) else (tamisref06_Local.j1 kj2 (IntKind.u64.wrap ((l0.length : Int))) (IntKind.u64.wrap ((IntKind.u64.wrap (a1)) + 1)) t178 (t178 == 9) ((rd_T56 l0 a1).f0) ((rd_T56 l0 a1).f1) ((rd_T56 l0 a1).f2) ((rd_T56 l0 a1).f3)))))))) else (none)) else (none)) = some r := by rw [if_neg (show ¬ (false = true) by decide)] at H; exact H
        clear H
        have H := H1
        clear H1
        by_cases c6 : 0 ≤ a1
        · rw [if_pos c6] at H
          have c6b0 : decide (0 ≤ a1) = true := decide_eq_true c6
          clear c6
          by_cases c7 : a1 < (l0.length : Int)
          · rw [if_pos c7] at H
            have c7b0 : decide (a1 < (l0.length : Int)) = true := decide_eq_true c7
            clear c7
            replace H := Option.bind_eq_some_iff.mp H
            obtain ⟨t178, A80, H⟩ := H
            replace H : (if t178 = 0 then (some 6) else (if t178 = 1 then (if ((rd_T56 l0 a1).f3) ≥ 64 then (some 11) else (if (Int.tmod ((rd_T56 l0 a1).f3) 4) = 0 then (some 0) else (some 11))) else (if t178 = 4 then (tamisref06_Local.j1 kj2 (IntKind.u64.wrap ((l0.length : Int))) (IntKind.u64.wrap ((IntKind.u64.wrap (a1)) + 1)) t178 (t178 == 4) ((rd_T56 l0 a1).f0) ((rd_T56 l0 a1).f1) ((rd_T56 l0 a1).f2) ((rd_T56 l0 a1).f3)) else (if t178 = 6 then (tamisref06_Local.j1 kj2 (IntKind.u64.wrap ((l0.length : Int))) (IntKind.u64.wrap ((IntKind.u64.wrap (a1)) + 1)) t178 (t178 == 6) ((rd_T56 l0 a1).f0) ((rd_T56 l0 a1).f1) ((rd_T56 l0 a1).f2) ((rd_T56 l0 a1).f3)) else (if t178 = 8 then (tamisref06_Local.j1 kj2 (IntKind.u64.wrap ((l0.length : Int))) (IntKind.u64.wrap ((IntKind.u64.wrap (a1)) + 1)) t178 (t178 == 8) ((rd_T56 l0 a1).f0) ((rd_T56 l0 a1).f1) ((rd_T56 l0 a1).f2) ((rd_T56 l0 a1).f3)) else (tamisref06_Local.j1 kj2 (IntKind.u64.wrap ((l0.length : Int))) (IntKind.u64.wrap ((IntKind.u64.wrap (a1)) + 1)) t178 (t178 == 9) ((rd_T56 l0 a1).f0) ((rd_T56 l0 a1).f1) ((rd_T56 l0 a1).f2) ((rd_T56 l0 a1).f3))))))) = some r := H
            have A8 := Aside0.mk A80
            clear A80
            by_cases c9 : t178 = 0
            · rw [if_pos c9] at H
              have c9b0 : (t178 == 0) = true := beq_iff_eq.mpr c9
              have c9b1 : (t178 != 0) = false := bne_eq_false_iff_eq.mpr c9
              clear c9
              obtain rfl := Option.some.inj H
              have p176 : 0 ≤ (a1 : Int) := of_decide_eq_true (by first | (with_reducible assumption) | assumption)
              have q176 : a1 < (l0.length : Int) := of_decide_eq_true (by first | (with_reducible assumption) | assumption)
              obtain ⟨ad176, e176, hx176_0, hx176_1, hx176_2, hx176_3⟩ := at_T56 HR0.out a1 p176 q176
              cases e176
              replace hx176_0 := (HB.out.cell (World.block_lt_of_cell? w _ hx176_0)).trans hx176_0
              replace hx176_1 := (HB.out.cell (World.block_lt_of_cell? w _ hx176_1)).trans hx176_1
              replace hx176_2 := (HB.out.cell (World.block_lt_of_cell? w _ hx176_2)).trans hx176_2
              replace hx176_3 := (HB.out.cell (World.block_lt_of_cell? w _ hx176_3)).trans hx176_3
              replace p176 := eq_true p176
              replace q176 := eq_true q176
              go_wp2_with (first | ((with_reducible refine gate_dst (N := 5) rfl ?_); (try (refine gate_guard (by rfl) ?_; dsimp only)); refine box_event ?hg (N := 5) ?hd (cs := #[.int .u16 0, .int .u8 0, .int .u8 0, .int .u32 0]) (t := 56) ?hr ?_; (case hd => rfl); (case hg => rfl); (case hr => first | (go_simp; done) | (go_simp; rfl)); intro gb177 hg w10 hbox hb; have n0_ := Aside0.mk (below_step (by repeat (first | (with_reducible first | exact HB.out | apply below_alloc | apply pw_below_drewN | apply below_drew1) | exact HB.out)) hb); have n1_ := Aside0.mk (hbox); have n2_ := Aside0.mk ((by rw [hg]; exact (below_size (by repeat (first | (with_reducible first | exact HB.out | apply below_alloc | apply pw_below_drewN | apply below_drew1) | exact HB.out))) : w.heap.size ≤ gb177)); have n3_ := Aside0.mk ((by rw [hg]; exact (below_size (by repeat (first | (with_reducible first | exact HB.out | apply below_alloc | apply pw_below_drewN | apply below_drew1) | exact HB.out))) : w.heap.size ≤ gb177)); clear HB; have HB := n0_; have BK177 := n1_; have GW177 := n2_; have GE177 := n3_; clear n0_ n1_ n2_ n3_; clear hb hbox hg; have hcz11_0 : w10.cell? ⟨gb177, 0, none⟩ = some (.int .u16 0) := (blk_cell BK177.out 0).trans rfl; have hcz11_1 : w10.cell? ⟨gb177, 1, none⟩ = some (.int .u8 0) := (blk_cell BK177.out 1).trans rfl; have hcz11_2 : w10.cell? ⟨gb177, 2, none⟩ = some (.int .u8 0) := (blk_cell BK177.out 2).trans rfl; have hcz11_3 : w10.cell? ⟨gb177, 3, none⟩ = some (.int .u32 0) := (blk_cell BK177.out 3).trans rfl; have hfz11_0 := blk_frozen BK177.out 0; have hfz11_1 := blk_frozen BK177.out 1; have hfz11_2 := blk_frozen BK177.out 2; have hfz11_3 := blk_frozen BK177.out 3) | ((with_reducible refine gate_callee (f := 45) rfl ?_); refine goesL_ (some 28) rfl rfl Try.func45 (by kernel_rfl) rfl #[.int .u16 ((rd_T56 l0 a1).f0)] rfl (by (try simp only [List.map_toArray, List.map_cons, List.map_nil]); first | done | rfl | (simp only [List.length_drop, List.length_take]; rfl)) ?_; (with_reducible refine (tamisref04_Kind.calls kj2 ((rd_T56 l0 a1).f0) t178 _ A8.out).mono ?_); rintro e w12 ⟨rfl, hb⟩; refine ⟨_, rfl, ?_⟩; have n0_ := Aside0.mk (blk_below (g := gb177) (o := .cells #[.int .u16 ((rd_T56 l0 a1).f0), .int .u8 ((rd_T56 l0 a1).f1), .int .u8 ((rd_T56 l0 a1).f2), .int .u32 ((rd_T56 l0 a1).f3)] 56 (0, 0)) (by (with_reducible repeat (first | refine blk_drewN ?_ _ | refine blk_drew ?_ | refine blk_alloc ?_ _)); refine blk_put (cs := #[.int .u16 ((rd_T56 l0 a1).f0), .int .u8 ((rd_T56 l0 a1).f1), .int .u8 ((rd_T56 l0 a1).f2), .int .u32 0]) ?_ 3 _ rfl; (with_reducible repeat (first | refine blk_drewN ?_ _ | refine blk_drew ?_ | refine blk_alloc ?_ _)); refine blk_put (cs := #[.int .u16 ((rd_T56 l0 a1).f0), .int .u8 ((rd_T56 l0 a1).f1), .int .u8 0, .int .u32 0]) ?_ 2 _ rfl; (with_reducible repeat (first | refine blk_drewN ?_ _ | refine blk_drew ?_ | refine blk_alloc ?_ _)); refine blk_put (cs := #[.int .u16 ((rd_T56 l0 a1).f0), .int .u8 0, .int .u8 0, .int .u32 0]) ?_ 1 _ rfl; (with_reducible repeat (first | refine blk_drewN ?_ _ | refine blk_drew ?_ | refine blk_alloc ?_ _)); refine blk_put (cs := #[.int .u16 0, .int .u8 0, .int .u8 0, .int .u32 0]) ?_ 0 _ rfl; (with_reducible repeat (first | refine blk_drewN ?_ _ | refine blk_drew ?_ | refine blk_alloc ?_ _)); exact BK177.out) hb); have n1_ := Aside0.mk (below_step (by repeat (first | (with_reducible first | exact HB.out | apply below_alloc | apply pw_below_drewN | apply below_drew1 | refine below_set ?_ GE177.out) | exact HB.out)) hb); clear BK177; clear HB; have BK177 := n0_; have HB := n1_; clear n0_ n1_; (try clear hb); (try clear hb2); (try clear hk); (try clear hi)))
              go_ret
              exact ⟨by first | rfl | (simp [errW_none, errW_some] <;> rfl) | (simp [*, errW_none, errW_some] <;> rfl), by repeat (first | (with_reducible first | exact HB.out | apply below_alloc | apply pw_below_drewN | apply below_drew1 | refine below_set ?_ GE177.out) | exact HB.out)⟩
            · rw [if_neg c9] at H
              have c9b0 : (t178 == 0) = false := beq_eq_false_iff_ne.mpr c9
              have c9b1 : (t178 != 0) = true := bne_iff_ne.mpr c9
              by_cases c13 : t178 = 1
              · rw [if_pos c13] at H
                have c13b0 : (t178 == 1) = true := beq_iff_eq.mpr c13
                have c13b1 : (t178 != 1) = false := bne_eq_false_iff_eq.mpr c13
                clear c13
                by_cases c14 : ((rd_T56 l0 a1).f3) ≥ 64
                · rw [if_pos c14] at H
                  have c14b0 : decide (64 ≤ ((rd_T56 l0 a1).f3)) = true := decide_eq_true c14
                  clear c14
                  obtain rfl := Option.some.inj H
                  have p176 : 0 ≤ (a1 : Int) := of_decide_eq_true (by first | (with_reducible assumption) | assumption)
                  have q176 : a1 < (l0.length : Int) := of_decide_eq_true (by first | (with_reducible assumption) | assumption)
                  obtain ⟨ad176, e176, hx176_0, hx176_1, hx176_2, hx176_3⟩ := at_T56 HR0.out a1 p176 q176
                  cases e176
                  replace hx176_0 := (HB.out.cell (World.block_lt_of_cell? w _ hx176_0)).trans hx176_0
                  replace hx176_1 := (HB.out.cell (World.block_lt_of_cell? w _ hx176_1)).trans hx176_1
                  replace hx176_2 := (HB.out.cell (World.block_lt_of_cell? w _ hx176_2)).trans hx176_2
                  replace hx176_3 := (HB.out.cell (World.block_lt_of_cell? w _ hx176_3)).trans hx176_3
                  replace p176 := eq_true p176
                  replace q176 := eq_true q176
                  go_wp2_with (first | ((with_reducible refine gate_dst (N := 5) rfl ?_); (try (refine gate_guard (by rfl) ?_; dsimp only)); refine box_event ?hg (N := 5) ?hd (cs := #[.int .u16 0, .int .u8 0, .int .u8 0, .int .u32 0]) (t := 56) ?hr ?_; (case hd => rfl); (case hg => rfl); (case hr => first | (go_simp; done) | (go_simp; rfl)); intro gb177 hg w15 hbox hb; have n0_ := Aside0.mk (below_step (by repeat (first | (with_reducible first | exact HB.out | apply below_alloc | apply pw_below_drewN | apply below_drew1) | exact HB.out)) hb); have n1_ := Aside0.mk (hbox); have n2_ := Aside0.mk ((by rw [hg]; exact (below_size (by repeat (first | (with_reducible first | exact HB.out | apply below_alloc | apply pw_below_drewN | apply below_drew1) | exact HB.out))) : w.heap.size ≤ gb177)); have n3_ := Aside0.mk ((by rw [hg]; exact (below_size (by repeat (first | (with_reducible first | exact HB.out | apply below_alloc | apply pw_below_drewN | apply below_drew1) | exact HB.out))) : w.heap.size ≤ gb177)); clear HB; have HB := n0_; have BK177 := n1_; have GW177 := n2_; have GE177 := n3_; clear n0_ n1_ n2_ n3_; clear hb hbox hg; have hcz16_0 : w15.cell? ⟨gb177, 0, none⟩ = some (.int .u16 0) := (blk_cell BK177.out 0).trans rfl; have hcz16_1 : w15.cell? ⟨gb177, 1, none⟩ = some (.int .u8 0) := (blk_cell BK177.out 1).trans rfl; have hcz16_2 : w15.cell? ⟨gb177, 2, none⟩ = some (.int .u8 0) := (blk_cell BK177.out 2).trans rfl; have hcz16_3 : w15.cell? ⟨gb177, 3, none⟩ = some (.int .u32 0) := (blk_cell BK177.out 3).trans rfl; have hfz16_0 := blk_frozen BK177.out 0; have hfz16_1 := blk_frozen BK177.out 1; have hfz16_2 := blk_frozen BK177.out 2; have hfz16_3 := blk_frozen BK177.out 3) | ((with_reducible refine gate_callee (f := 45) rfl ?_); refine goesL_ (some 28) rfl rfl Try.func45 (by kernel_rfl) rfl #[.int .u16 ((rd_T56 l0 a1).f0)] rfl (by (try simp only [List.map_toArray, List.map_cons, List.map_nil]); first | done | rfl | (simp only [List.length_drop, List.length_take]; rfl)) ?_; (with_reducible refine (tamisref04_Kind.calls kj2 ((rd_T56 l0 a1).f0) t178 _ A8.out).mono ?_); rintro e w17 ⟨rfl, hb⟩; refine ⟨_, rfl, ?_⟩; have n0_ := Aside0.mk (blk_below (g := gb177) (o := .cells #[.int .u16 ((rd_T56 l0 a1).f0), .int .u8 ((rd_T56 l0 a1).f1), .int .u8 ((rd_T56 l0 a1).f2), .int .u32 ((rd_T56 l0 a1).f3)] 56 (0, 0)) (by (with_reducible repeat (first | refine blk_drewN ?_ _ | refine blk_drew ?_ | refine blk_alloc ?_ _)); refine blk_put (cs := #[.int .u16 ((rd_T56 l0 a1).f0), .int .u8 ((rd_T56 l0 a1).f1), .int .u8 ((rd_T56 l0 a1).f2), .int .u32 0]) ?_ 3 _ rfl; (with_reducible repeat (first | refine blk_drewN ?_ _ | refine blk_drew ?_ | refine blk_alloc ?_ _)); refine blk_put (cs := #[.int .u16 ((rd_T56 l0 a1).f0), .int .u8 ((rd_T56 l0 a1).f1), .int .u8 0, .int .u32 0]) ?_ 2 _ rfl; (with_reducible repeat (first | refine blk_drewN ?_ _ | refine blk_drew ?_ | refine blk_alloc ?_ _)); refine blk_put (cs := #[.int .u16 ((rd_T56 l0 a1).f0), .int .u8 0, .int .u8 0, .int .u32 0]) ?_ 1 _ rfl; (with_reducible repeat (first | refine blk_drewN ?_ _ | refine blk_drew ?_ | refine blk_alloc ?_ _)); refine blk_put (cs := #[.int .u16 0, .int .u8 0, .int .u8 0, .int .u32 0]) ?_ 0 _ rfl; (with_reducible repeat (first | refine blk_drewN ?_ _ | refine blk_drew ?_ | refine blk_alloc ?_ _)); exact BK177.out) hb); have n1_ := Aside0.mk (below_step (by repeat (first | (with_reducible first | exact HB.out | apply below_alloc | apply pw_below_drewN | apply below_drew1 | refine below_set ?_ GE177.out) | exact HB.out)) hb); clear BK177; clear HB; have BK177 := n0_; have HB := n1_; clear n0_ n1_; (try clear hb); (try clear hb2); (try clear hk); (try clear hi); have hcz18_0 : w17.cell? ⟨gb177, 0, none⟩ = some (.int .u16 ((rd_T56 l0 a1).f0)) := (blk_cell BK177.out 0).trans rfl; have hcz18_1 : w17.cell? ⟨gb177, 1, none⟩ = some (.int .u8 ((rd_T56 l0 a1).f1)) := (blk_cell BK177.out 1).trans rfl; have hcz18_2 : w17.cell? ⟨gb177, 2, none⟩ = some (.int .u8 ((rd_T56 l0 a1).f2)) := (blk_cell BK177.out 2).trans rfl; have hcz18_3 : w17.cell? ⟨gb177, 3, none⟩ = some (.int .u32 ((rd_T56 l0 a1).f3)) := (blk_cell BK177.out 3).trans rfl; have hfz18_0 := blk_frozen BK177.out 0; have hfz18_1 := blk_frozen BK177.out 1; have hfz18_2 := blk_frozen BK177.out 2; have hfz18_3 := blk_frozen BK177.out 3))
                  go_ret
                  exact ⟨by first | rfl | (simp [errW_none, errW_some] <;> rfl) | (simp [*, errW_none, errW_some] <;> rfl), by repeat (first | (with_reducible first | exact HB.out | apply below_alloc | apply pw_below_drewN | apply below_drew1 | refine below_set ?_ GE177.out) | exact HB.out)⟩
                · rw [if_neg c14] at H
                  have c14b0 : decide (64 ≤ ((rd_T56 l0 a1).f3)) = false := decide_eq_false c14
                  clear c14
                  by_cases c19 : (Int.tmod ((rd_T56 l0 a1).f3) 4) = 0
                  · rw [if_pos c19] at H
                    have c19b0 : ((Int.tmod ((rd_T56 l0 a1).f3) 4) == 0) = true := beq_iff_eq.mpr c19
                    have c19b1 : ((Int.tmod ((rd_T56 l0 a1).f3) 4) != 0) = false := bne_eq_false_iff_eq.mpr c19
                    clear c19
                    obtain rfl := Option.some.inj H
                    have p176 : 0 ≤ (a1 : Int) := of_decide_eq_true (by first | (with_reducible assumption) | assumption)
                    have q176 : a1 < (l0.length : Int) := of_decide_eq_true (by first | (with_reducible assumption) | assumption)
                    obtain ⟨ad176, e176, hx176_0, hx176_1, hx176_2, hx176_3⟩ := at_T56 HR0.out a1 p176 q176
                    cases e176
                    replace hx176_0 := (HB.out.cell (World.block_lt_of_cell? w _ hx176_0)).trans hx176_0
                    replace hx176_1 := (HB.out.cell (World.block_lt_of_cell? w _ hx176_1)).trans hx176_1
                    replace hx176_2 := (HB.out.cell (World.block_lt_of_cell? w _ hx176_2)).trans hx176_2
                    replace hx176_3 := (HB.out.cell (World.block_lt_of_cell? w _ hx176_3)).trans hx176_3
                    replace p176 := eq_true p176
                    replace q176 := eq_true q176
                    go_wp2_with (first | ((with_reducible refine gate_dst (N := 5) rfl ?_); (try (refine gate_guard (by rfl) ?_; dsimp only)); refine box_event ?hg (N := 5) ?hd (cs := #[.int .u16 0, .int .u8 0, .int .u8 0, .int .u32 0]) (t := 56) ?hr ?_; (case hd => rfl); (case hg => rfl); (case hr => first | (go_simp; done) | (go_simp; rfl)); intro gb177 hg w20 hbox hb; have n0_ := Aside0.mk (below_step (by repeat (first | (with_reducible first | exact HB.out | apply below_alloc | apply pw_below_drewN | apply below_drew1) | exact HB.out)) hb); have n1_ := Aside0.mk (hbox); have n2_ := Aside0.mk ((by rw [hg]; exact (below_size (by repeat (first | (with_reducible first | exact HB.out | apply below_alloc | apply pw_below_drewN | apply below_drew1) | exact HB.out))) : w.heap.size ≤ gb177)); have n3_ := Aside0.mk ((by rw [hg]; exact (below_size (by repeat (first | (with_reducible first | exact HB.out | apply below_alloc | apply pw_below_drewN | apply below_drew1) | exact HB.out))) : w.heap.size ≤ gb177)); clear HB; have HB := n0_; have BK177 := n1_; have GW177 := n2_; have GE177 := n3_; clear n0_ n1_ n2_ n3_; clear hb hbox hg; have hcz21_0 : w20.cell? ⟨gb177, 0, none⟩ = some (.int .u16 0) := (blk_cell BK177.out 0).trans rfl; have hcz21_1 : w20.cell? ⟨gb177, 1, none⟩ = some (.int .u8 0) := (blk_cell BK177.out 1).trans rfl; have hcz21_2 : w20.cell? ⟨gb177, 2, none⟩ = some (.int .u8 0) := (blk_cell BK177.out 2).trans rfl; have hcz21_3 : w20.cell? ⟨gb177, 3, none⟩ = some (.int .u32 0) := (blk_cell BK177.out 3).trans rfl; have hfz21_0 := blk_frozen BK177.out 0; have hfz21_1 := blk_frozen BK177.out 1; have hfz21_2 := blk_frozen BK177.out 2; have hfz21_3 := blk_frozen BK177.out 3) | ((with_reducible refine gate_callee (f := 45) rfl ?_); refine goesL_ (some 28) rfl rfl Try.func45 (by kernel_rfl) rfl #[.int .u16 ((rd_T56 l0 a1).f0)] rfl (by (try simp only [List.map_toArray, List.map_cons, List.map_nil]); first | done | rfl | (simp only [List.length_drop, List.length_take]; rfl)) ?_; (with_reducible refine (tamisref04_Kind.calls kj2 ((rd_T56 l0 a1).f0) t178 _ A8.out).mono ?_); rintro e w22 ⟨rfl, hb⟩; refine ⟨_, rfl, ?_⟩; have n0_ := Aside0.mk (blk_below (g := gb177) (o := .cells #[.int .u16 ((rd_T56 l0 a1).f0), .int .u8 ((rd_T56 l0 a1).f1), .int .u8 ((rd_T56 l0 a1).f2), .int .u32 ((rd_T56 l0 a1).f3)] 56 (0, 0)) (by (with_reducible repeat (first | refine blk_drewN ?_ _ | refine blk_drew ?_ | refine blk_alloc ?_ _)); refine blk_put (cs := #[.int .u16 ((rd_T56 l0 a1).f0), .int .u8 ((rd_T56 l0 a1).f1), .int .u8 ((rd_T56 l0 a1).f2), .int .u32 0]) ?_ 3 _ rfl; (with_reducible repeat (first | refine blk_drewN ?_ _ | refine blk_drew ?_ | refine blk_alloc ?_ _)); refine blk_put (cs := #[.int .u16 ((rd_T56 l0 a1).f0), .int .u8 ((rd_T56 l0 a1).f1), .int .u8 0, .int .u32 0]) ?_ 2 _ rfl; (with_reducible repeat (first | refine blk_drewN ?_ _ | refine blk_drew ?_ | refine blk_alloc ?_ _)); refine blk_put (cs := #[.int .u16 ((rd_T56 l0 a1).f0), .int .u8 0, .int .u8 0, .int .u32 0]) ?_ 1 _ rfl; (with_reducible repeat (first | refine blk_drewN ?_ _ | refine blk_drew ?_ | refine blk_alloc ?_ _)); refine blk_put (cs := #[.int .u16 0, .int .u8 0, .int .u8 0, .int .u32 0]) ?_ 0 _ rfl; (with_reducible repeat (first | refine blk_drewN ?_ _ | refine blk_drew ?_ | refine blk_alloc ?_ _)); exact BK177.out) hb); have n1_ := Aside0.mk (below_step (by repeat (first | (with_reducible first | exact HB.out | apply below_alloc | apply pw_below_drewN | apply below_drew1 | refine below_set ?_ GE177.out) | exact HB.out)) hb); clear BK177; clear HB; have BK177 := n0_; have HB := n1_; clear n0_ n1_; (try clear hb); (try clear hb2); (try clear hk); (try clear hi); have hcz23_0 : w22.cell? ⟨gb177, 0, none⟩ = some (.int .u16 ((rd_T56 l0 a1).f0)) := (blk_cell BK177.out 0).trans rfl; have hcz23_1 : w22.cell? ⟨gb177, 1, none⟩ = some (.int .u8 ((rd_T56 l0 a1).f1)) := (blk_cell BK177.out 1).trans rfl; have hcz23_2 : w22.cell? ⟨gb177, 2, none⟩ = some (.int .u8 ((rd_T56 l0 a1).f2)) := (blk_cell BK177.out 2).trans rfl; have hcz23_3 : w22.cell? ⟨gb177, 3, none⟩ = some (.int .u32 ((rd_T56 l0 a1).f3)) := (blk_cell BK177.out 3).trans rfl; have hfz23_0 := blk_frozen BK177.out 0; have hfz23_1 := blk_frozen BK177.out 1; have hfz23_2 := blk_frozen BK177.out 2; have hfz23_3 := blk_frozen BK177.out 3))
                    go_ret
                    exact ⟨by first | rfl | (simp [errW_none, errW_some] <;> rfl) | (simp [*, errW_none, errW_some] <;> rfl), by repeat (first | (with_reducible first | exact HB.out | apply below_alloc | apply pw_below_drewN | apply below_drew1 | refine below_set ?_ GE177.out) | exact HB.out)⟩
                  · rw [if_neg c19] at H
                    have c19b0 : ((Int.tmod ((rd_T56 l0 a1).f3) 4) == 0) = false := beq_eq_false_iff_ne.mpr c19
                    have c19b1 : ((Int.tmod ((rd_T56 l0 a1).f3) 4) != 0) = true := bne_iff_ne.mpr c19
                    obtain rfl := Option.some.inj H
                    have p176 : 0 ≤ (a1 : Int) := of_decide_eq_true (by first | (with_reducible assumption) | assumption)
                    have q176 : a1 < (l0.length : Int) := of_decide_eq_true (by first | (with_reducible assumption) | assumption)
                    obtain ⟨ad176, e176, hx176_0, hx176_1, hx176_2, hx176_3⟩ := at_T56 HR0.out a1 p176 q176
                    cases e176
                    replace hx176_0 := (HB.out.cell (World.block_lt_of_cell? w _ hx176_0)).trans hx176_0
                    replace hx176_1 := (HB.out.cell (World.block_lt_of_cell? w _ hx176_1)).trans hx176_1
                    replace hx176_2 := (HB.out.cell (World.block_lt_of_cell? w _ hx176_2)).trans hx176_2
                    replace hx176_3 := (HB.out.cell (World.block_lt_of_cell? w _ hx176_3)).trans hx176_3
                    replace p176 := eq_true p176
                    replace q176 := eq_true q176
                    go_wp2_with (first | ((with_reducible refine gate_dst (N := 5) rfl ?_); (try (refine gate_guard (by rfl) ?_; dsimp only)); refine box_event ?hg (N := 5) ?hd (cs := #[.int .u16 0, .int .u8 0, .int .u8 0, .int .u32 0]) (t := 56) ?hr ?_; (case hd => rfl); (case hg => rfl); (case hr => first | (go_simp; done) | (go_simp; rfl)); intro gb177 hg w24 hbox hb; have n0_ := Aside0.mk (below_step (by repeat (first | (with_reducible first | exact HB.out | apply below_alloc | apply pw_below_drewN | apply below_drew1) | exact HB.out)) hb); have n1_ := Aside0.mk (hbox); have n2_ := Aside0.mk ((by rw [hg]; exact (below_size (by repeat (first | (with_reducible first | exact HB.out | apply below_alloc | apply pw_below_drewN | apply below_drew1) | exact HB.out))) : w.heap.size ≤ gb177)); have n3_ := Aside0.mk ((by rw [hg]; exact (below_size (by repeat (first | (with_reducible first | exact HB.out | apply below_alloc | apply pw_below_drewN | apply below_drew1) | exact HB.out))) : w.heap.size ≤ gb177)); clear HB; have HB := n0_; have BK177 := n1_; have GW177 := n2_; have GE177 := n3_; clear n0_ n1_ n2_ n3_; clear hb hbox hg; have hcz25_0 : w24.cell? ⟨gb177, 0, none⟩ = some (.int .u16 0) := (blk_cell BK177.out 0).trans rfl; have hcz25_1 : w24.cell? ⟨gb177, 1, none⟩ = some (.int .u8 0) := (blk_cell BK177.out 1).trans rfl; have hcz25_2 : w24.cell? ⟨gb177, 2, none⟩ = some (.int .u8 0) := (blk_cell BK177.out 2).trans rfl; have hcz25_3 : w24.cell? ⟨gb177, 3, none⟩ = some (.int .u32 0) := (blk_cell BK177.out 3).trans rfl; have hfz25_0 := blk_frozen BK177.out 0; have hfz25_1 := blk_frozen BK177.out 1; have hfz25_2 := blk_frozen BK177.out 2; have hfz25_3 := blk_frozen BK177.out 3) | ((with_reducible refine gate_callee (f := 45) rfl ?_); refine goesL_ (some 28) rfl rfl Try.func45 (by kernel_rfl) rfl #[.int .u16 ((rd_T56 l0 a1).f0)] rfl (by (try simp only [List.map_toArray, List.map_cons, List.map_nil]); first | done | rfl | (simp only [List.length_drop, List.length_take]; rfl)) ?_; (with_reducible refine (tamisref04_Kind.calls kj2 ((rd_T56 l0 a1).f0) t178 _ A8.out).mono ?_); rintro e w26 ⟨rfl, hb⟩; refine ⟨_, rfl, ?_⟩; have n0_ := Aside0.mk (blk_below (g := gb177) (o := .cells #[.int .u16 ((rd_T56 l0 a1).f0), .int .u8 ((rd_T56 l0 a1).f1), .int .u8 ((rd_T56 l0 a1).f2), .int .u32 ((rd_T56 l0 a1).f3)] 56 (0, 0)) (by (with_reducible repeat (first | refine blk_drewN ?_ _ | refine blk_drew ?_ | refine blk_alloc ?_ _)); refine blk_put (cs := #[.int .u16 ((rd_T56 l0 a1).f0), .int .u8 ((rd_T56 l0 a1).f1), .int .u8 ((rd_T56 l0 a1).f2), .int .u32 0]) ?_ 3 _ rfl; (with_reducible repeat (first | refine blk_drewN ?_ _ | refine blk_drew ?_ | refine blk_alloc ?_ _)); refine blk_put (cs := #[.int .u16 ((rd_T56 l0 a1).f0), .int .u8 ((rd_T56 l0 a1).f1), .int .u8 0, .int .u32 0]) ?_ 2 _ rfl; (with_reducible repeat (first | refine blk_drewN ?_ _ | refine blk_drew ?_ | refine blk_alloc ?_ _)); refine blk_put (cs := #[.int .u16 ((rd_T56 l0 a1).f0), .int .u8 0, .int .u8 0, .int .u32 0]) ?_ 1 _ rfl; (with_reducible repeat (first | refine blk_drewN ?_ _ | refine blk_drew ?_ | refine blk_alloc ?_ _)); refine blk_put (cs := #[.int .u16 0, .int .u8 0, .int .u8 0, .int .u32 0]) ?_ 0 _ rfl; (with_reducible repeat (first | refine blk_drewN ?_ _ | refine blk_drew ?_ | refine blk_alloc ?_ _)); exact BK177.out) hb); have n1_ := Aside0.mk (below_step (by repeat (first | (with_reducible first | exact HB.out | apply below_alloc | apply pw_below_drewN | apply below_drew1 | refine below_set ?_ GE177.out) | exact HB.out)) hb); clear BK177; clear HB; have BK177 := n0_; have HB := n1_; clear n0_ n1_; (try clear hb); (try clear hb2); (try clear hk); (try clear hi); have hcz27_0 : w26.cell? ⟨gb177, 0, none⟩ = some (.int .u16 ((rd_T56 l0 a1).f0)) := (blk_cell BK177.out 0).trans rfl; have hcz27_1 : w26.cell? ⟨gb177, 1, none⟩ = some (.int .u8 ((rd_T56 l0 a1).f1)) := (blk_cell BK177.out 1).trans rfl; have hcz27_2 : w26.cell? ⟨gb177, 2, none⟩ = some (.int .u8 ((rd_T56 l0 a1).f2)) := (blk_cell BK177.out 2).trans rfl; have hcz27_3 : w26.cell? ⟨gb177, 3, none⟩ = some (.int .u32 ((rd_T56 l0 a1).f3)) := (blk_cell BK177.out 3).trans rfl; have hfz27_0 := blk_frozen BK177.out 0; have hfz27_1 := blk_frozen BK177.out 1; have hfz27_2 := blk_frozen BK177.out 2; have hfz27_3 := blk_frozen BK177.out 3))
                    go_ret
                    exact ⟨by first | rfl | (simp [errW_none, errW_some] <;> rfl) | (simp [*, errW_none, errW_some] <;> rfl), by repeat (first | (with_reducible first | exact HB.out | apply below_alloc | apply pw_below_drewN | apply below_drew1 | refine below_set ?_ GE177.out) | exact HB.out)⟩
              · rw [if_neg c13] at H
                have c13b0 : (t178 == 1) = false := beq_eq_false_iff_ne.mpr c13
                have c13b1 : (t178 != 1) = true := bne_iff_ne.mpr c13
                have HC28 := Aside0.mk H
                clear H
                have p176 : 0 ≤ (a1 : Int) := of_decide_eq_true (by first | (with_reducible assumption) | assumption)
                have q176 : a1 < (l0.length : Int) := of_decide_eq_true (by first | (with_reducible assumption) | assumption)
                obtain ⟨ad176, e176, hx176_0, hx176_1, hx176_2, hx176_3⟩ := at_T56 HR0.out a1 p176 q176
                cases e176
                replace hx176_0 := (HB.out.cell (World.block_lt_of_cell? w _ hx176_0)).trans hx176_0
                replace hx176_1 := (HB.out.cell (World.block_lt_of_cell? w _ hx176_1)).trans hx176_1
                replace hx176_2 := (HB.out.cell (World.block_lt_of_cell? w _ hx176_2)).trans hx176_2
                replace hx176_3 := (HB.out.cell (World.block_lt_of_cell? w _ hx176_3)).trans hx176_3
                replace p176 := eq_true p176
                replace q176 := eq_true q176
                go_upto_if 42 with (first | ((with_reducible refine gate_dst (N := 5) rfl ?_); (try (refine gate_guard (by rfl) ?_; dsimp only)); refine box_event ?hg (N := 5) ?hd (cs := #[.int .u16 0, .int .u8 0, .int .u8 0, .int .u32 0]) (t := 56) ?hr ?_; (case hd => rfl); (case hg => rfl); (case hr => first | (go_simp; done) | (go_simp; rfl)); intro gb177 hg w29 hbox hb; have n0_ := Aside0.mk (below_step (by repeat (first | (with_reducible first | exact HB.out | apply below_alloc | apply pw_below_drewN | apply below_drew1) | exact HB.out)) hb); have n1_ := Aside0.mk (hbox); have n2_ := Aside0.mk ((by rw [hg]; exact (below_size (by repeat (first | (with_reducible first | exact HB.out | apply below_alloc | apply pw_below_drewN | apply below_drew1) | exact HB.out))) : w.heap.size ≤ gb177)); have n3_ := Aside0.mk ((by rw [hg]; exact (below_size (by repeat (first | (with_reducible first | exact HB.out | apply below_alloc | apply pw_below_drewN | apply below_drew1) | exact HB.out))) : w.heap.size ≤ gb177)); clear HB; have HB := n0_; have BK177 := n1_; have GW177 := n2_; have GE177 := n3_; clear n0_ n1_ n2_ n3_; clear hb hbox hg; have hcz30_0 : w29.cell? ⟨gb177, 0, none⟩ = some (.int .u16 0) := (blk_cell BK177.out 0).trans rfl; have hcz30_1 : w29.cell? ⟨gb177, 1, none⟩ = some (.int .u8 0) := (blk_cell BK177.out 1).trans rfl; have hcz30_2 : w29.cell? ⟨gb177, 2, none⟩ = some (.int .u8 0) := (blk_cell BK177.out 2).trans rfl; have hcz30_3 : w29.cell? ⟨gb177, 3, none⟩ = some (.int .u32 0) := (blk_cell BK177.out 3).trans rfl; have hfz30_0 := blk_frozen BK177.out 0; have hfz30_1 := blk_frozen BK177.out 1; have hfz30_2 := blk_frozen BK177.out 2; have hfz30_3 := blk_frozen BK177.out 3) | ((with_reducible refine gate_callee (f := 45) rfl ?_); refine goesL_ (some 28) rfl rfl Try.func45 (by kernel_rfl) rfl #[.int .u16 ((rd_T56 l0 a1).f0)] rfl (by (try simp only [List.map_toArray, List.map_cons, List.map_nil]); first | done | rfl | (simp only [List.length_drop, List.length_take]; rfl)) ?_; (with_reducible refine (tamisref04_Kind.calls kj2 ((rd_T56 l0 a1).f0) t178 _ A8.out).mono ?_); rintro e w31 ⟨rfl, hb⟩; refine ⟨_, rfl, ?_⟩; have n0_ := Aside0.mk (blk_below (g := gb177) (o := .cells #[.int .u16 ((rd_T56 l0 a1).f0), .int .u8 ((rd_T56 l0 a1).f1), .int .u8 ((rd_T56 l0 a1).f2), .int .u32 ((rd_T56 l0 a1).f3)] 56 (0, 0)) (by (with_reducible repeat (first | refine blk_drewN ?_ _ | refine blk_drew ?_ | refine blk_alloc ?_ _)); refine blk_put (cs := #[.int .u16 ((rd_T56 l0 a1).f0), .int .u8 ((rd_T56 l0 a1).f1), .int .u8 ((rd_T56 l0 a1).f2), .int .u32 0]) ?_ 3 _ rfl; (with_reducible repeat (first | refine blk_drewN ?_ _ | refine blk_drew ?_ | refine blk_alloc ?_ _)); refine blk_put (cs := #[.int .u16 ((rd_T56 l0 a1).f0), .int .u8 ((rd_T56 l0 a1).f1), .int .u8 0, .int .u32 0]) ?_ 2 _ rfl; (with_reducible repeat (first | refine blk_drewN ?_ _ | refine blk_drew ?_ | refine blk_alloc ?_ _)); refine blk_put (cs := #[.int .u16 ((rd_T56 l0 a1).f0), .int .u8 0, .int .u8 0, .int .u32 0]) ?_ 1 _ rfl; (with_reducible repeat (first | refine blk_drewN ?_ _ | refine blk_drew ?_ | refine blk_alloc ?_ _)); refine blk_put (cs := #[.int .u16 0, .int .u8 0, .int .u8 0, .int .u32 0]) ?_ 0 _ rfl; (with_reducible repeat (first | refine blk_drewN ?_ _ | refine blk_drew ?_ | refine blk_alloc ?_ _)); exact BK177.out) hb); have n1_ := Aside0.mk (below_step (by repeat (first | (with_reducible first | exact HB.out | apply below_alloc | apply pw_below_drewN | apply below_drew1 | refine below_set ?_ GE177.out) | exact HB.out)) hb); clear BK177; clear HB; have BK177 := n0_; have HB := n1_; clear n0_ n1_; (try clear hb); (try clear hb2); (try clear hk); (try clear hi)))
                (try simp only [Act.put, List.setIfInBounds_toArray, List.set_cons_zero, List.set_cons_succ])
                go_cut [42] (fun v42 wc => ∃ (kq : Nat) (x42_27 : Bool), v42 = .bool x42_27 ∧ Aside0 (tamisref06_Local.j1 kq (IntKind.u64.wrap ((l0.length : Int))) (IntKind.u64.wrap ((IntKind.u64.wrap (a1)) + 1)) t178 x42_27 ((rd_T56 l0 a1).f0) ((rd_T56 l0 a1).f1) ((rd_T56 l0 a1).f2) ((rd_T56 l0 a1).f3) = some r) ∧ Aside0 (kq ≤ kj2) ∧ Aside0 (wc.heap[gb177]? = some (.cells #[.int .u16 ((rd_T56 l0 a1).f0), .int .u8 ((rd_T56 l0 a1).f1), .int .u8 ((rd_T56 l0 a1).f2), .int .u32 ((rd_T56 l0 a1).f3)] 56 (0, 0))) ∧ Aside0 (Below w.heap.size w wc))
                case first =>
                  have H := HC28.out
                  clear HC28
                  by_cases c32 : t178 = 4
                  · rw [if_pos c32] at H
                    have c32b0 : (t178 == 4) = true := beq_iff_eq.mpr c32
                    have c32b1 : (t178 != 4) = false := bne_eq_false_iff_eq.mpr c32
                    clear c32
                    (first | rw [c32b0] | (simp only [i64_w, i32_w]; rw [c32b0]) | skip)
                    have H' := Aside0.mk H
                    clear H
                    go_wp2
                    go_meet
                    case rel => exact ⟨_, ((t178 == 4)), (by first | rfl | (simp; done) | (simp [*]; done)), H', ⟨by have := HJ2.out; first | omega | exact Nat.le_refl _⟩, ⟨by (with_reducible repeat (first | refine blk_drewN ?_ _ | refine blk_drew ?_ | refine blk_alloc ?_ _)); exact BK177.out⟩, ⟨by repeat (first | (with_reducible first | exact HB.out | apply below_alloc | apply pw_below_drewN | apply below_drew1 | refine below_set ?_ GE177.out) | exact HB.out)⟩⟩
                  · rw [if_neg c32] at H
                    have c32b0 : (t178 == 4) = false := beq_eq_false_iff_ne.mpr c32
                    have c32b1 : (t178 != 4) = true := bne_iff_ne.mpr c32
                    (first | rw [c32b0] | (simp only [i64_w, i32_w]; rw [c32b0]) | skip)
                    by_cases c33 : t178 = 6
                    · rw [if_pos c33] at H
                      have c33b0 : (t178 == 6) = true := beq_iff_eq.mpr c33
                      have c33b1 : (t178 != 6) = false := bne_eq_false_iff_eq.mpr c33
                      clear c33
                      have H' := Aside0.mk H
                      clear H
                      go_wp2
                      go_meet
                      case rel => exact ⟨_, ((t178 == 6)), (by first | rfl | (simp; done) | (simp [*]; done)), H', ⟨by have := HJ2.out; first | omega | exact Nat.le_refl _⟩, ⟨by (with_reducible repeat (first | refine blk_drewN ?_ _ | refine blk_drew ?_ | refine blk_alloc ?_ _)); exact BK177.out⟩, ⟨by repeat (first | (with_reducible first | exact HB.out | apply below_alloc | apply pw_below_drewN | apply below_drew1 | refine below_set ?_ GE177.out) | exact HB.out)⟩⟩
                    · rw [if_neg c33] at H
                      have c33b0 : (t178 == 6) = false := beq_eq_false_iff_ne.mpr c33
                      have c33b1 : (t178 != 6) = true := bne_iff_ne.mpr c33
                      by_cases c34 : t178 = 8
                      · rw [if_pos c34] at H
                        have c34b0 : (t178 == 8) = true := beq_iff_eq.mpr c34
                        have c34b1 : (t178 != 8) = false := bne_eq_false_iff_eq.mpr c34
                        clear c34
                        have H' := Aside0.mk H
                        clear H
                        go_wp2
                        go_meet
                        case rel => exact ⟨_, ((t178 == 8)), (by first | rfl | (simp; done) | (simp [*]; done)), H', ⟨by have := HJ2.out; first | omega | exact Nat.le_refl _⟩, ⟨by (with_reducible repeat (first | refine blk_drewN ?_ _ | refine blk_drew ?_ | refine blk_alloc ?_ _)); exact BK177.out⟩, ⟨by repeat (first | (with_reducible first | exact HB.out | apply below_alloc | apply pw_below_drewN | apply below_drew1 | refine below_set ?_ GE177.out) | exact HB.out)⟩⟩
                      · rw [if_neg c34] at H
                        have c34b0 : (t178 == 8) = false := beq_eq_false_iff_ne.mpr c34
                        have c34b1 : (t178 != 8) = true := bne_iff_ne.mpr c34
                        have H' := Aside0.mk H
                        clear H
                        go_wp2
                        go_meet
                        case rel => exact ⟨_, ((t178 == 9)), (by first | rfl | (simp; done) | (simp [*]; done)), H', ⟨by have := HJ2.out; first | omega | exact Nat.le_refl _⟩, ⟨by (with_reducible repeat (first | refine blk_drewN ?_ _ | refine blk_drew ?_ | refine blk_alloc ?_ _)); exact BK177.out⟩, ⟨by repeat (first | (with_reducible first | exact HB.out | apply below_alloc | apply pw_below_drewN | apply below_drew1 | refine below_set ?_ GE177.out) | exact HB.out)⟩⟩
                case rest =>
                  clear HC28
                  try clear c1
                  try clear p1
                  try clear q1
                  try clear hx1
                  try clear p2
                  try clear c3
                  try clear c4
                  try clear c4b0
                  try clear c5
                  try clear c6
                  try clear c6b0
                  try clear c7
                  try clear c7b0
                  try clear c9
                  try clear c9b0
                  try clear c9b1
                  try clear c13
                  try clear c13b0
                  try clear c13b1
                  try clear c14
                  try clear c14b0
                  try clear p17
                  try clear q17
                  try clear hx17
                  try clear c19
                  try clear c19b0
                  try clear c19b1
                  try clear c32
                  try clear c32b0
                  try clear c32b1
                  try clear c33
                  try clear c33b0
                  try clear c33b1
                  try clear c34
                  try clear c34b0
                  try clear c34b1
                  try clear hcz11_0
                  try clear hcz11_1
                  try clear hcz11_2
                  try clear hcz11_3
                  try clear hcz16_0
                  try clear hcz16_1
                  try clear hcz16_2
                  try clear hcz16_3
                  try clear hcz18_0
                  try clear hcz18_1
                  try clear hcz18_2
                  try clear hcz18_3
                  try clear hcz21_0
                  try clear hcz21_1
                  try clear hcz21_2
                  try clear hcz21_3
                  try clear hcz23_0
                  try clear hcz23_1
                  try clear hcz23_2
                  try clear hcz23_3
                  try clear hcz25_0
                  try clear hcz25_1
                  try clear hcz25_2
                  try clear hcz25_3
                  try clear hcz27_0
                  try clear hcz27_1
                  try clear hcz27_2
                  try clear hcz27_3
                  try clear hcz30_0
                  try clear hcz30_1
                  try clear hcz30_2
                  try clear hcz30_3
                  try clear hfz11_0
                  try clear hfz11_1
                  try clear hfz11_2
                  try clear hfz11_3
                  try clear hfz16_0
                  try clear hfz16_1
                  try clear hfz16_2
                  try clear hfz16_3
                  try clear hfz18_0
                  try clear hfz18_1
                  try clear hfz18_2
                  try clear hfz18_3
                  try clear hfz21_0
                  try clear hfz21_1
                  try clear hfz21_2
                  try clear hfz21_3
                  try clear hfz23_0
                  try clear hfz23_1
                  try clear hfz23_2
                  try clear hfz23_3
                  try clear hfz25_0
                  try clear hfz25_1
                  try clear hfz25_2
                  try clear hfz25_3
                  try clear hfz27_0
                  try clear hfz27_1
                  try clear hfz27_2
                  try clear hfz27_3
                  try clear hfz30_0
                  try clear hfz30_1
                  try clear hfz30_2
                  try clear hfz30_3
                  try clear hx176_0
                  try clear hx176_1
                  try clear hx176_2
                  try clear hx176_3
                  try clear p176
                  try clear p2
                  try clear q176
                  obtain ⟨kq, x42_27, rfl, HA, HJ27, BK177, HB⟩ := hcut
                  cases kq with
                  | zero => exact absurd HA.out (by simp [tamisref06_Local.j1])
                  | succ kj27 =>
                    have H := HA.out
                    clear HA
                    simp only [tamisref06_Local.j1] at H
                    by_cases c35 : x42_27 = true
                    · subst c35
                      have H1 : (if ((rd_T56 l0 a1).f3) ≥ 16 then (some 10) else (some 0)) = some r := by rw [if_pos rfl] at H; exact H
                      clear H
                      have H := H1
                      clear H1
                      by_cases c36 : ((rd_T56 l0 a1).f3) ≥ 16
                      · rw [if_pos c36] at H
                        have c36b0 : decide (16 ≤ ((rd_T56 l0 a1).f3)) = true := decide_eq_true c36
                        clear c36
                        obtain rfl := Option.some.inj H
                        have hcz37_0 : wc.cell? ⟨gb177, 0, none⟩ = some (.int .u16 ((rd_T56 l0 a1).f0)) := (blk_cell BK177.out 0).trans rfl
                        have hcz37_1 : wc.cell? ⟨gb177, 1, none⟩ = some (.int .u8 ((rd_T56 l0 a1).f1)) := (blk_cell BK177.out 1).trans rfl
                        have hcz37_2 : wc.cell? ⟨gb177, 2, none⟩ = some (.int .u8 ((rd_T56 l0 a1).f2)) := (blk_cell BK177.out 2).trans rfl
                        have hcz37_3 : wc.cell? ⟨gb177, 3, none⟩ = some (.int .u32 ((rd_T56 l0 a1).f3)) := (blk_cell BK177.out 3).trans rfl
                        have hfz37_0 := blk_frozen BK177.out 0
                        have hfz37_1 := blk_frozen BK177.out 1
                        have hfz37_2 := blk_frozen BK177.out 2
                        have hfz37_3 := blk_frozen BK177.out 3
                        go_wp2
                        go_ret
                        exact ⟨by first | rfl | (simp [errW_none, errW_some] <;> rfl) | (simp [*, errW_none, errW_some] <;> rfl), by repeat (first | (with_reducible first | exact HB.out | apply below_alloc | apply pw_below_drewN | apply below_drew1 | refine below_set ?_ GE177.out) | exact HB.out)⟩
                      · rw [if_neg c36] at H
                        have c36b0 : decide (16 ≤ ((rd_T56 l0 a1).f3)) = false := decide_eq_false c36
                        clear c36
                        obtain rfl := Option.some.inj H
                        have hcz38_0 : wc.cell? ⟨gb177, 0, none⟩ = some (.int .u16 ((rd_T56 l0 a1).f0)) := (blk_cell BK177.out 0).trans rfl
                        have hcz38_1 : wc.cell? ⟨gb177, 1, none⟩ = some (.int .u8 ((rd_T56 l0 a1).f1)) := (blk_cell BK177.out 1).trans rfl
                        have hcz38_2 : wc.cell? ⟨gb177, 2, none⟩ = some (.int .u8 ((rd_T56 l0 a1).f2)) := (blk_cell BK177.out 2).trans rfl
                        have hcz38_3 : wc.cell? ⟨gb177, 3, none⟩ = some (.int .u32 ((rd_T56 l0 a1).f3)) := (blk_cell BK177.out 3).trans rfl
                        have hfz38_0 := blk_frozen BK177.out 0
                        have hfz38_1 := blk_frozen BK177.out 1
                        have hfz38_2 := blk_frozen BK177.out 2
                        have hfz38_3 := blk_frozen BK177.out 3
                        go_wp2
                        go_ret
                        exact ⟨by first | rfl | (simp [errW_none, errW_some] <;> rfl) | (simp [*, errW_none, errW_some] <;> rfl), by repeat (first | (with_reducible first | exact HB.out | apply below_alloc | apply pw_below_drewN | apply below_drew1 | refine below_set ?_ GE177.out) | exact HB.out)⟩
                    · replace c35 := Bool.eq_false_iff.mpr c35
                      subst c35
                      have H1 : (if t178 = 10 then (if ((rd_T56 l0 a1).f0) = 52 then (tamisref06_Local.j2 kj27 (((rd_T56 l0 a1).f3) == 0) ((rd_T56 l0 a1).f0) ((rd_T56 l0 a1).f1) ((rd_T56 l0 a1).f2) ((rd_T56 l0 a1).f3)) else (tamisref06_Local.j2 kj27 false ((rd_T56 l0 a1).f0) ((rd_T56 l0 a1).f1) ((rd_T56 l0 a1).f2) ((rd_T56 l0 a1).f3))) else (if t178 = 11 then (if (IntKind.u64.wrap ((IntKind.u64.wrap ((IntKind.u64.wrap (a1)) + 1)) + (IntKind.u64.wrap (((rd_T56 l0 a1).f3))))) ≥ (IntKind.u64.wrap ((l0.length : Int))) then (some 7) else (some 0)) else (if t178 = 12 then (if (IntKind.u64.wrap ((IntKind.u64.wrap ((IntKind.u64.wrap (a1)) + 1)) + (IntKind.u64.wrap (((rd_T56 l0 a1).f1))))) ≥ (IntKind.u64.wrap ((l0.length : Int))) then (some 7) else (if (IntKind.u64.wrap ((IntKind.u64.wrap ((IntKind.u64.wrap (a1)) + 1)) + (IntKind.u64.wrap (((rd_T56 l0 a1).f2))))) ≥ (IntKind.u64.wrap ((l0.length : Int))) then (some 7) else (some 0))) else (some 0)))) = some r := by rw [if_neg (show ¬ (false = true) by decide)] at H; exact H
                      clear H
                      have H := H1
                      clear H1
                      by_cases c39 : t178 = 10
                      · rw [if_pos c39] at H
                        have c39b0 : (t178 == 10) = true := beq_iff_eq.mpr c39
                        have c39b1 : (t178 != 10) = false := bne_eq_false_iff_eq.mpr c39
                        clear c39
                        have HC40 := Aside0.mk H
                        clear H
                        go_upto_region 19 with (fail)
                        go_cut [59] (fun v59 wc => ∃ (kq : Nat) (x59_39 : Bool), v59 = .bool x59_39 ∧ Aside0 (tamisref06_Local.j2 kq x59_39 ((rd_T56 l0 a1).f0) ((rd_T56 l0 a1).f1) ((rd_T56 l0 a1).f2) ((rd_T56 l0 a1).f3) = some r) ∧ Aside0 (kq ≤ kj27) ∧ Aside0 (wc.heap[gb177]? = some (.cells #[.int .u16 ((rd_T56 l0 a1).f0), .int .u8 ((rd_T56 l0 a1).f1), .int .u8 ((rd_T56 l0 a1).f2), .int .u32 ((rd_T56 l0 a1).f3)] 56 (0, 0))) ∧ Aside0 (Below w.heap.size w wc))
                        case first =>
                          have H := HC40.out
                          clear HC40
                          by_cases c41 : ((rd_T56 l0 a1).f0) = 52
                          · rw [if_pos c41] at H
                            have c41b0 : (((rd_T56 l0 a1).f0) == 52) = true := beq_iff_eq.mpr c41
                            have c41b1 : (((rd_T56 l0 a1).f0) != 52) = false := bne_eq_false_iff_eq.mpr c41
                            clear c41
                            (first | rw [c41b0] | (simp only [i64_w, i32_w]; rw [c41b0]) | skip)
                            have H' := Aside0.mk H
                            clear H
                            have hcz42_0 : wc.cell? ⟨gb177, 0, none⟩ = some (.int .u16 ((rd_T56 l0 a1).f0)) := (blk_cell BK177.out 0).trans rfl
                            have hcz42_1 : wc.cell? ⟨gb177, 1, none⟩ = some (.int .u8 ((rd_T56 l0 a1).f1)) := (blk_cell BK177.out 1).trans rfl
                            have hcz42_2 : wc.cell? ⟨gb177, 2, none⟩ = some (.int .u8 ((rd_T56 l0 a1).f2)) := (blk_cell BK177.out 2).trans rfl
                            have hcz42_3 : wc.cell? ⟨gb177, 3, none⟩ = some (.int .u32 ((rd_T56 l0 a1).f3)) := (blk_cell BK177.out 3).trans rfl
                            have hfz42_0 := blk_frozen BK177.out 0
                            have hfz42_1 := blk_frozen BK177.out 1
                            have hfz42_2 := blk_frozen BK177.out 2
                            have hfz42_3 := blk_frozen BK177.out 3
                            go_wp2
                            go_meet
                            case rel => exact ⟨_, ((((rd_T56 l0 a1).f3) == 0)), (by first | rfl | (simp; done) | (simp [*]; done)), H', ⟨by have := HJ2.out; have := HJ27.out; first | omega | exact Nat.le_refl _⟩, ⟨by (with_reducible repeat (first | refine blk_drewN ?_ _ | refine blk_drew ?_ | refine blk_alloc ?_ _)); exact BK177.out⟩, ⟨by repeat (first | (with_reducible first | exact HB.out | apply below_alloc | apply pw_below_drewN | apply below_drew1 | refine below_set ?_ GE177.out) | exact HB.out)⟩⟩
                          · rw [if_neg c41] at H
                            have c41b0 : (((rd_T56 l0 a1).f0) == 52) = false := beq_eq_false_iff_ne.mpr c41
                            have c41b1 : (((rd_T56 l0 a1).f0) != 52) = true := bne_iff_ne.mpr c41
                            (first | rw [c41b0] | (simp only [i64_w, i32_w]; rw [c41b0]) | skip)
                            have H' := Aside0.mk H
                            clear H
                            have hcz43_0 : wc.cell? ⟨gb177, 0, none⟩ = some (.int .u16 ((rd_T56 l0 a1).f0)) := (blk_cell BK177.out 0).trans rfl
                            have hcz43_1 : wc.cell? ⟨gb177, 1, none⟩ = some (.int .u8 ((rd_T56 l0 a1).f1)) := (blk_cell BK177.out 1).trans rfl
                            have hcz43_2 : wc.cell? ⟨gb177, 2, none⟩ = some (.int .u8 ((rd_T56 l0 a1).f2)) := (blk_cell BK177.out 2).trans rfl
                            have hcz43_3 : wc.cell? ⟨gb177, 3, none⟩ = some (.int .u32 ((rd_T56 l0 a1).f3)) := (blk_cell BK177.out 3).trans rfl
                            have hfz43_0 := blk_frozen BK177.out 0
                            have hfz43_1 := blk_frozen BK177.out 1
                            have hfz43_2 := blk_frozen BK177.out 2
                            have hfz43_3 := blk_frozen BK177.out 3
                            go_wp2
                            go_meet
                            case rel => exact ⟨_, (false), (by first | rfl | (simp; done) | (simp [*]; done)), H', ⟨by have := HJ2.out; have := HJ27.out; first | omega | exact Nat.le_refl _⟩, ⟨by (with_reducible repeat (first | refine blk_drewN ?_ _ | refine blk_drew ?_ | refine blk_alloc ?_ _)); exact BK177.out⟩, ⟨by repeat (first | (with_reducible first | exact HB.out | apply below_alloc | apply pw_below_drewN | apply below_drew1 | refine below_set ?_ GE177.out) | exact HB.out)⟩⟩
                        case rest =>
                          clear HC40
                          try clear c1
                          try clear p1
                          try clear q1
                          try clear hx1
                          try clear p2
                          try clear c3
                          try clear c4
                          try clear c4b0
                          try clear c5
                          try clear c6
                          try clear c6b0
                          try clear c7
                          try clear c7b0
                          try clear c9
                          try clear c9b0
                          try clear c9b1
                          try clear c13
                          try clear c13b0
                          try clear c13b1
                          try clear c14
                          try clear c14b0
                          try clear p17
                          try clear q17
                          try clear hx17
                          try clear c19
                          try clear c19b0
                          try clear c19b1
                          try clear c32
                          try clear c32b0
                          try clear c32b1
                          try clear c33
                          try clear c33b0
                          try clear c33b1
                          try clear c34
                          try clear c34b0
                          try clear c34b1
                          try clear c35
                          try clear c36
                          try clear c36b0
                          try clear c39
                          try clear c39b0
                          try clear c39b1
                          try clear c41
                          try clear c41b0
                          try clear c41b1
                          try clear c42
                          try clear hcz11_0
                          try clear hcz11_1
                          try clear hcz11_2
                          try clear hcz11_3
                          try clear hcz16_0
                          try clear hcz16_1
                          try clear hcz16_2
                          try clear hcz16_3
                          try clear hcz18_0
                          try clear hcz18_1
                          try clear hcz18_2
                          try clear hcz18_3
                          try clear hcz21_0
                          try clear hcz21_1
                          try clear hcz21_2
                          try clear hcz21_3
                          try clear hcz23_0
                          try clear hcz23_1
                          try clear hcz23_2
                          try clear hcz23_3
                          try clear hcz25_0
                          try clear hcz25_1
                          try clear hcz25_2
                          try clear hcz25_3
                          try clear hcz27_0
                          try clear hcz27_1
                          try clear hcz27_2
                          try clear hcz27_3
                          try clear hcz30_0
                          try clear hcz30_1
                          try clear hcz30_2
                          try clear hcz30_3
                          try clear hcz37_0
                          try clear hcz37_1
                          try clear hcz37_2
                          try clear hcz37_3
                          try clear hcz38_0
                          try clear hcz38_1
                          try clear hcz38_2
                          try clear hcz38_3
                          try clear hcz42_0
                          try clear hcz42_1
                          try clear hcz42_2
                          try clear hcz42_3
                          try clear hcz43_0
                          try clear hcz43_1
                          try clear hcz43_2
                          try clear hcz43_3
                          try clear hfz11_0
                          try clear hfz11_1
                          try clear hfz11_2
                          try clear hfz11_3
                          try clear hfz16_0
                          try clear hfz16_1
                          try clear hfz16_2
                          try clear hfz16_3
                          try clear hfz18_0
                          try clear hfz18_1
                          try clear hfz18_2
                          try clear hfz18_3
                          try clear hfz21_0
                          try clear hfz21_1
                          try clear hfz21_2
                          try clear hfz21_3
                          try clear hfz23_0
                          try clear hfz23_1
                          try clear hfz23_2
                          try clear hfz23_3
                          try clear hfz25_0
                          try clear hfz25_1
                          try clear hfz25_2
                          try clear hfz25_3
                          try clear hfz27_0
                          try clear hfz27_1
                          try clear hfz27_2
                          try clear hfz27_3
                          try clear hfz30_0
                          try clear hfz30_1
                          try clear hfz30_2
                          try clear hfz30_3
                          try clear hfz37_0
                          try clear hfz37_1
                          try clear hfz37_2
                          try clear hfz37_3
                          try clear hfz38_0
                          try clear hfz38_1
                          try clear hfz38_2
                          try clear hfz38_3
                          try clear hfz42_0
                          try clear hfz42_1
                          try clear hfz42_2
                          try clear hfz42_3
                          try clear hfz43_0
                          try clear hfz43_1
                          try clear hfz43_2
                          try clear hfz43_3
                          try clear hx176_0
                          try clear hx176_1
                          try clear hx176_2
                          try clear hx176_3
                          try clear p1
                          try clear p17
                          try clear p176
                          try clear p2
                          try clear q1
                          try clear q17
                          try clear q176
                          obtain ⟨kq, x59_39, rfl, HA, HJ39, BK177, HB⟩ := hcut
                          cases kq with
                          | zero => exact absurd HA.out (by simp [tamisref06_Local.j2])
                          | succ kj39 =>
                            have H := HA.out
                            clear HA
                            simp only [tamisref06_Local.j2] at H
                            by_cases c44 : x59_39 = true
                            · subst c44
                              have H1 : (some 8) = some r := by rw [if_pos rfl] at H; exact H
                              clear H
                              have H := H1
                              clear H1
                              obtain rfl := Option.some.inj H
                              go_wp2
                              go_ret
                              exact ⟨by first | rfl | (simp [errW_none, errW_some] <;> rfl) | (simp [*, errW_none, errW_some] <;> rfl), by repeat (first | (with_reducible first | exact HB.out | apply below_alloc | apply pw_below_drewN | apply below_drew1 | refine below_set ?_ GE177.out) | exact HB.out)⟩
                            · replace c44 := Bool.eq_false_iff.mpr c44
                              subst c44
                              have H1 : (if ((rd_T56 l0 a1).f0) = 100 then (if ((rd_T56 l0 a1).f3) ≥ 32 then (some 9) else (some 0)) else (if ((rd_T56 l0 a1).f0) = 116 then (if ((rd_T56 l0 a1).f3) ≥ 32 then (some 9) else (some 0)) else (some 0))) = some r := by rw [if_neg (show ¬ (false = true) by decide)] at H; exact H
                              clear H
                              have H := H1
                              clear H1
                              by_cases c45 : ((rd_T56 l0 a1).f0) = 100
                              · rw [if_pos c45] at H
                                have c45b0 : (((rd_T56 l0 a1).f0) == 100) = true := beq_iff_eq.mpr c45
                                have c45b1 : (((rd_T56 l0 a1).f0) != 100) = false := bne_eq_false_iff_eq.mpr c45
                                clear c45
                                by_cases c46 : ((rd_T56 l0 a1).f3) ≥ 32
                                · rw [if_pos c46] at H
                                  have c46b0 : decide (32 ≤ ((rd_T56 l0 a1).f3)) = true := decide_eq_true c46
                                  clear c46
                                  obtain rfl := Option.some.inj H
                                  have hcz47_0 : wc.cell? ⟨gb177, 0, none⟩ = some (.int .u16 ((rd_T56 l0 a1).f0)) := (blk_cell BK177.out 0).trans rfl
                                  have hcz47_1 : wc.cell? ⟨gb177, 1, none⟩ = some (.int .u8 ((rd_T56 l0 a1).f1)) := (blk_cell BK177.out 1).trans rfl
                                  have hcz47_2 : wc.cell? ⟨gb177, 2, none⟩ = some (.int .u8 ((rd_T56 l0 a1).f2)) := (blk_cell BK177.out 2).trans rfl
                                  have hcz47_3 : wc.cell? ⟨gb177, 3, none⟩ = some (.int .u32 ((rd_T56 l0 a1).f3)) := (blk_cell BK177.out 3).trans rfl
                                  have hfz47_0 := blk_frozen BK177.out 0
                                  have hfz47_1 := blk_frozen BK177.out 1
                                  have hfz47_2 := blk_frozen BK177.out 2
                                  have hfz47_3 := blk_frozen BK177.out 3
                                  go_wp2
                                  go_ret
                                  exact ⟨by first | rfl | (simp [errW_none, errW_some] <;> rfl) | (simp [*, errW_none, errW_some] <;> rfl), by repeat (first | (with_reducible first | exact HB.out | apply below_alloc | apply pw_below_drewN | apply below_drew1 | refine below_set ?_ GE177.out) | exact HB.out)⟩
                                · rw [if_neg c46] at H
                                  have c46b0 : decide (32 ≤ ((rd_T56 l0 a1).f3)) = false := decide_eq_false c46
                                  clear c46
                                  obtain rfl := Option.some.inj H
                                  have hcz48_0 : wc.cell? ⟨gb177, 0, none⟩ = some (.int .u16 ((rd_T56 l0 a1).f0)) := (blk_cell BK177.out 0).trans rfl
                                  have hcz48_1 : wc.cell? ⟨gb177, 1, none⟩ = some (.int .u8 ((rd_T56 l0 a1).f1)) := (blk_cell BK177.out 1).trans rfl
                                  have hcz48_2 : wc.cell? ⟨gb177, 2, none⟩ = some (.int .u8 ((rd_T56 l0 a1).f2)) := (blk_cell BK177.out 2).trans rfl
                                  have hcz48_3 : wc.cell? ⟨gb177, 3, none⟩ = some (.int .u32 ((rd_T56 l0 a1).f3)) := (blk_cell BK177.out 3).trans rfl
                                  have hfz48_0 := blk_frozen BK177.out 0
                                  have hfz48_1 := blk_frozen BK177.out 1
                                  have hfz48_2 := blk_frozen BK177.out 2
                                  have hfz48_3 := blk_frozen BK177.out 3
                                  go_wp2
                                  go_ret
                                  exact ⟨by first | rfl | (simp [errW_none, errW_some] <;> rfl) | (simp [*, errW_none, errW_some] <;> rfl), by repeat (first | (with_reducible first | exact HB.out | apply below_alloc | apply pw_below_drewN | apply below_drew1 | refine below_set ?_ GE177.out) | exact HB.out)⟩
                              · rw [if_neg c45] at H
                                have c45b0 : (((rd_T56 l0 a1).f0) == 100) = false := beq_eq_false_iff_ne.mpr c45
                                have c45b1 : (((rd_T56 l0 a1).f0) != 100) = true := bne_iff_ne.mpr c45
                                by_cases c49 : ((rd_T56 l0 a1).f0) = 116
                                · rw [if_pos c49] at H
                                  have c49b0 : (((rd_T56 l0 a1).f0) == 116) = true := beq_iff_eq.mpr c49
                                  have c49b1 : (((rd_T56 l0 a1).f0) != 116) = false := bne_eq_false_iff_eq.mpr c49
                                  clear c49
                                  by_cases c50 : ((rd_T56 l0 a1).f3) ≥ 32
                                  · rw [if_pos c50] at H
                                    have c50b0 : decide (32 ≤ ((rd_T56 l0 a1).f3)) = true := decide_eq_true c50
                                    clear c50
                                    obtain rfl := Option.some.inj H
                                    have hcz51_0 : wc.cell? ⟨gb177, 0, none⟩ = some (.int .u16 ((rd_T56 l0 a1).f0)) := (blk_cell BK177.out 0).trans rfl
                                    have hcz51_1 : wc.cell? ⟨gb177, 1, none⟩ = some (.int .u8 ((rd_T56 l0 a1).f1)) := (blk_cell BK177.out 1).trans rfl
                                    have hcz51_2 : wc.cell? ⟨gb177, 2, none⟩ = some (.int .u8 ((rd_T56 l0 a1).f2)) := (blk_cell BK177.out 2).trans rfl
                                    have hcz51_3 : wc.cell? ⟨gb177, 3, none⟩ = some (.int .u32 ((rd_T56 l0 a1).f3)) := (blk_cell BK177.out 3).trans rfl
                                    have hfz51_0 := blk_frozen BK177.out 0
                                    have hfz51_1 := blk_frozen BK177.out 1
                                    have hfz51_2 := blk_frozen BK177.out 2
                                    have hfz51_3 := blk_frozen BK177.out 3
                                    go_wp2
                                    go_ret
                                    exact ⟨by first | rfl | (simp [errW_none, errW_some] <;> rfl) | (simp [*, errW_none, errW_some] <;> rfl), by repeat (first | (with_reducible first | exact HB.out | apply below_alloc | apply pw_below_drewN | apply below_drew1 | refine below_set ?_ GE177.out) | exact HB.out)⟩
                                  · rw [if_neg c50] at H
                                    have c50b0 : decide (32 ≤ ((rd_T56 l0 a1).f3)) = false := decide_eq_false c50
                                    clear c50
                                    obtain rfl := Option.some.inj H
                                    have hcz52_0 : wc.cell? ⟨gb177, 0, none⟩ = some (.int .u16 ((rd_T56 l0 a1).f0)) := (blk_cell BK177.out 0).trans rfl
                                    have hcz52_1 : wc.cell? ⟨gb177, 1, none⟩ = some (.int .u8 ((rd_T56 l0 a1).f1)) := (blk_cell BK177.out 1).trans rfl
                                    have hcz52_2 : wc.cell? ⟨gb177, 2, none⟩ = some (.int .u8 ((rd_T56 l0 a1).f2)) := (blk_cell BK177.out 2).trans rfl
                                    have hcz52_3 : wc.cell? ⟨gb177, 3, none⟩ = some (.int .u32 ((rd_T56 l0 a1).f3)) := (blk_cell BK177.out 3).trans rfl
                                    have hfz52_0 := blk_frozen BK177.out 0
                                    have hfz52_1 := blk_frozen BK177.out 1
                                    have hfz52_2 := blk_frozen BK177.out 2
                                    have hfz52_3 := blk_frozen BK177.out 3
                                    go_wp2
                                    go_ret
                                    exact ⟨by first | rfl | (simp [errW_none, errW_some] <;> rfl) | (simp [*, errW_none, errW_some] <;> rfl), by repeat (first | (with_reducible first | exact HB.out | apply below_alloc | apply pw_below_drewN | apply below_drew1 | refine below_set ?_ GE177.out) | exact HB.out)⟩
                                · rw [if_neg c49] at H
                                  have c49b0 : (((rd_T56 l0 a1).f0) == 116) = false := beq_eq_false_iff_ne.mpr c49
                                  have c49b1 : (((rd_T56 l0 a1).f0) != 116) = true := bne_iff_ne.mpr c49
                                  obtain rfl := Option.some.inj H
                                  have hcz53_0 : wc.cell? ⟨gb177, 0, none⟩ = some (.int .u16 ((rd_T56 l0 a1).f0)) := (blk_cell BK177.out 0).trans rfl
                                  have hcz53_1 : wc.cell? ⟨gb177, 1, none⟩ = some (.int .u8 ((rd_T56 l0 a1).f1)) := (blk_cell BK177.out 1).trans rfl
                                  have hcz53_2 : wc.cell? ⟨gb177, 2, none⟩ = some (.int .u8 ((rd_T56 l0 a1).f2)) := (blk_cell BK177.out 2).trans rfl
                                  have hcz53_3 : wc.cell? ⟨gb177, 3, none⟩ = some (.int .u32 ((rd_T56 l0 a1).f3)) := (blk_cell BK177.out 3).trans rfl
                                  have hfz53_0 := blk_frozen BK177.out 0
                                  have hfz53_1 := blk_frozen BK177.out 1
                                  have hfz53_2 := blk_frozen BK177.out 2
                                  have hfz53_3 := blk_frozen BK177.out 3
                                  go_wp2
                                  go_ret
                                  exact ⟨by first | rfl | (simp [errW_none, errW_some] <;> rfl) | (simp [*, errW_none, errW_some] <;> rfl), by repeat (first | (with_reducible first | exact HB.out | apply below_alloc | apply pw_below_drewN | apply below_drew1 | refine below_set ?_ GE177.out) | exact HB.out)⟩
                      · rw [if_neg c39] at H
                        have c39b0 : (t178 == 10) = false := beq_eq_false_iff_ne.mpr c39
                        have c39b1 : (t178 != 10) = true := bne_iff_ne.mpr c39
                        by_cases c54 : t178 = 11
                        · rw [if_pos c54] at H
                          have c54b0 : (t178 == 11) = true := beq_iff_eq.mpr c54
                          have c54b1 : (t178 != 11) = false := bne_eq_false_iff_eq.mpr c54
                          clear c54
                          by_cases c55 : (IntKind.u64.wrap ((IntKind.u64.wrap ((IntKind.u64.wrap (a1)) + 1)) + (IntKind.u64.wrap (((rd_T56 l0 a1).f3))))) ≥ (IntKind.u64.wrap ((l0.length : Int)))
                          · rw [if_pos c55] at H
                            have c55b0 : decide ((IntKind.u64.wrap ((l0.length : Int))) ≤ (IntKind.u64.wrap ((IntKind.u64.wrap ((IntKind.u64.wrap (a1)) + 1)) + (IntKind.u64.wrap (((rd_T56 l0 a1).f3)))))) = true := decide_eq_true c55
                            clear c55
                            obtain rfl := Option.some.inj H
                            have hcz56_0 : wc.cell? ⟨gb177, 0, none⟩ = some (.int .u16 ((rd_T56 l0 a1).f0)) := (blk_cell BK177.out 0).trans rfl
                            have hcz56_1 : wc.cell? ⟨gb177, 1, none⟩ = some (.int .u8 ((rd_T56 l0 a1).f1)) := (blk_cell BK177.out 1).trans rfl
                            have hcz56_2 : wc.cell? ⟨gb177, 2, none⟩ = some (.int .u8 ((rd_T56 l0 a1).f2)) := (blk_cell BK177.out 2).trans rfl
                            have hcz56_3 : wc.cell? ⟨gb177, 3, none⟩ = some (.int .u32 ((rd_T56 l0 a1).f3)) := (blk_cell BK177.out 3).trans rfl
                            have hfz56_0 := blk_frozen BK177.out 0
                            have hfz56_1 := blk_frozen BK177.out 1
                            have hfz56_2 := blk_frozen BK177.out 2
                            have hfz56_3 := blk_frozen BK177.out 3
                            go_wp2
                            go_ret
                            exact ⟨by first | rfl | (simp [errW_none, errW_some] <;> rfl) | (simp [*, errW_none, errW_some] <;> rfl), by repeat (first | (with_reducible first | exact HB.out | apply below_alloc | apply pw_below_drewN | apply below_drew1 | refine below_set ?_ GE177.out) | exact HB.out)⟩
                          · rw [if_neg c55] at H
                            have c55b0 : decide ((IntKind.u64.wrap ((l0.length : Int))) ≤ (IntKind.u64.wrap ((IntKind.u64.wrap ((IntKind.u64.wrap (a1)) + 1)) + (IntKind.u64.wrap (((rd_T56 l0 a1).f3)))))) = false := decide_eq_false c55
                            clear c55
                            obtain rfl := Option.some.inj H
                            have hcz57_0 : wc.cell? ⟨gb177, 0, none⟩ = some (.int .u16 ((rd_T56 l0 a1).f0)) := (blk_cell BK177.out 0).trans rfl
                            have hcz57_1 : wc.cell? ⟨gb177, 1, none⟩ = some (.int .u8 ((rd_T56 l0 a1).f1)) := (blk_cell BK177.out 1).trans rfl
                            have hcz57_2 : wc.cell? ⟨gb177, 2, none⟩ = some (.int .u8 ((rd_T56 l0 a1).f2)) := (blk_cell BK177.out 2).trans rfl
                            have hcz57_3 : wc.cell? ⟨gb177, 3, none⟩ = some (.int .u32 ((rd_T56 l0 a1).f3)) := (blk_cell BK177.out 3).trans rfl
                            have hfz57_0 := blk_frozen BK177.out 0
                            have hfz57_1 := blk_frozen BK177.out 1
                            have hfz57_2 := blk_frozen BK177.out 2
                            have hfz57_3 := blk_frozen BK177.out 3
                            go_wp2
                            go_ret
                            exact ⟨by first | rfl | (simp [errW_none, errW_some] <;> rfl) | (simp [*, errW_none, errW_some] <;> rfl), by repeat (first | (with_reducible first | exact HB.out | apply below_alloc | apply pw_below_drewN | apply below_drew1 | refine below_set ?_ GE177.out) | exact HB.out)⟩
                        · rw [if_neg c54] at H
                          have c54b0 : (t178 == 11) = false := beq_eq_false_iff_ne.mpr c54
                          have c54b1 : (t178 != 11) = true := bne_iff_ne.mpr c54
                          by_cases c58 : t178 = 12
                          · rw [if_pos c58] at H
                            have c58b0 : (t178 == 12) = true := beq_iff_eq.mpr c58
                            have c58b1 : (t178 != 12) = false := bne_eq_false_iff_eq.mpr c58
                            clear c58
                            by_cases c59 : (IntKind.u64.wrap ((IntKind.u64.wrap ((IntKind.u64.wrap (a1)) + 1)) + (IntKind.u64.wrap (((rd_T56 l0 a1).f1))))) ≥ (IntKind.u64.wrap ((l0.length : Int)))
                            · rw [if_pos c59] at H
                              have c59b0 : decide ((IntKind.u64.wrap ((l0.length : Int))) ≤ (IntKind.u64.wrap ((IntKind.u64.wrap ((IntKind.u64.wrap (a1)) + 1)) + (IntKind.u64.wrap (((rd_T56 l0 a1).f1)))))) = true := decide_eq_true c59
                              clear c59
                              obtain rfl := Option.some.inj H
                              have hcz60_0 : wc.cell? ⟨gb177, 0, none⟩ = some (.int .u16 ((rd_T56 l0 a1).f0)) := (blk_cell BK177.out 0).trans rfl
                              have hcz60_1 : wc.cell? ⟨gb177, 1, none⟩ = some (.int .u8 ((rd_T56 l0 a1).f1)) := (blk_cell BK177.out 1).trans rfl
                              have hcz60_2 : wc.cell? ⟨gb177, 2, none⟩ = some (.int .u8 ((rd_T56 l0 a1).f2)) := (blk_cell BK177.out 2).trans rfl
                              have hcz60_3 : wc.cell? ⟨gb177, 3, none⟩ = some (.int .u32 ((rd_T56 l0 a1).f3)) := (blk_cell BK177.out 3).trans rfl
                              have hfz60_0 := blk_frozen BK177.out 0
                              have hfz60_1 := blk_frozen BK177.out 1
                              have hfz60_2 := blk_frozen BK177.out 2
                              have hfz60_3 := blk_frozen BK177.out 3
                              go_wp2
                              go_ret
                              exact ⟨by first | rfl | (simp [errW_none, errW_some] <;> rfl) | (simp [*, errW_none, errW_some] <;> rfl), by repeat (first | (with_reducible first | exact HB.out | apply below_alloc | apply pw_below_drewN | apply below_drew1 | refine below_set ?_ GE177.out) | exact HB.out)⟩
                            · rw [if_neg c59] at H
                              have c59b0 : decide ((IntKind.u64.wrap ((l0.length : Int))) ≤ (IntKind.u64.wrap ((IntKind.u64.wrap ((IntKind.u64.wrap (a1)) + 1)) + (IntKind.u64.wrap (((rd_T56 l0 a1).f1)))))) = false := decide_eq_false c59
                              clear c59
                              by_cases c61 : (IntKind.u64.wrap ((IntKind.u64.wrap ((IntKind.u64.wrap (a1)) + 1)) + (IntKind.u64.wrap (((rd_T56 l0 a1).f2))))) ≥ (IntKind.u64.wrap ((l0.length : Int)))
                              · rw [if_pos c61] at H
                                have c61b0 : decide ((IntKind.u64.wrap ((l0.length : Int))) ≤ (IntKind.u64.wrap ((IntKind.u64.wrap ((IntKind.u64.wrap (a1)) + 1)) + (IntKind.u64.wrap (((rd_T56 l0 a1).f2)))))) = true := decide_eq_true c61
                                clear c61
                                obtain rfl := Option.some.inj H
                                have hcz62_0 : wc.cell? ⟨gb177, 0, none⟩ = some (.int .u16 ((rd_T56 l0 a1).f0)) := (blk_cell BK177.out 0).trans rfl
                                have hcz62_1 : wc.cell? ⟨gb177, 1, none⟩ = some (.int .u8 ((rd_T56 l0 a1).f1)) := (blk_cell BK177.out 1).trans rfl
                                have hcz62_2 : wc.cell? ⟨gb177, 2, none⟩ = some (.int .u8 ((rd_T56 l0 a1).f2)) := (blk_cell BK177.out 2).trans rfl
                                have hcz62_3 : wc.cell? ⟨gb177, 3, none⟩ = some (.int .u32 ((rd_T56 l0 a1).f3)) := (blk_cell BK177.out 3).trans rfl
                                have hfz62_0 := blk_frozen BK177.out 0
                                have hfz62_1 := blk_frozen BK177.out 1
                                have hfz62_2 := blk_frozen BK177.out 2
                                have hfz62_3 := blk_frozen BK177.out 3
                                go_wp2
                                go_ret
                                exact ⟨by first | rfl | (simp [errW_none, errW_some] <;> rfl) | (simp [*, errW_none, errW_some] <;> rfl), by repeat (first | (with_reducible first | exact HB.out | apply below_alloc | apply pw_below_drewN | apply below_drew1 | refine below_set ?_ GE177.out) | exact HB.out)⟩
                              · rw [if_neg c61] at H
                                have c61b0 : decide ((IntKind.u64.wrap ((l0.length : Int))) ≤ (IntKind.u64.wrap ((IntKind.u64.wrap ((IntKind.u64.wrap (a1)) + 1)) + (IntKind.u64.wrap (((rd_T56 l0 a1).f2)))))) = false := decide_eq_false c61
                                clear c61
                                obtain rfl := Option.some.inj H
                                have hcz63_0 : wc.cell? ⟨gb177, 0, none⟩ = some (.int .u16 ((rd_T56 l0 a1).f0)) := (blk_cell BK177.out 0).trans rfl
                                have hcz63_1 : wc.cell? ⟨gb177, 1, none⟩ = some (.int .u8 ((rd_T56 l0 a1).f1)) := (blk_cell BK177.out 1).trans rfl
                                have hcz63_2 : wc.cell? ⟨gb177, 2, none⟩ = some (.int .u8 ((rd_T56 l0 a1).f2)) := (blk_cell BK177.out 2).trans rfl
                                have hcz63_3 : wc.cell? ⟨gb177, 3, none⟩ = some (.int .u32 ((rd_T56 l0 a1).f3)) := (blk_cell BK177.out 3).trans rfl
                                have hfz63_0 := blk_frozen BK177.out 0
                                have hfz63_1 := blk_frozen BK177.out 1
                                have hfz63_2 := blk_frozen BK177.out 2
                                have hfz63_3 := blk_frozen BK177.out 3
                                go_wp2
                                go_ret
                                exact ⟨by first | rfl | (simp [errW_none, errW_some] <;> rfl) | (simp [*, errW_none, errW_some] <;> rfl), by repeat (first | (with_reducible first | exact HB.out | apply below_alloc | apply pw_below_drewN | apply below_drew1 | refine below_set ?_ GE177.out) | exact HB.out)⟩
                          · rw [if_neg c58] at H
                            have c58b0 : (t178 == 12) = false := beq_eq_false_iff_ne.mpr c58
                            have c58b1 : (t178 != 12) = true := bne_iff_ne.mpr c58
                            obtain rfl := Option.some.inj H
                            go_wp2
                            go_ret
                            exact ⟨by first | rfl | (simp [errW_none, errW_some] <;> rfl) | (simp [*, errW_none, errW_some] <;> rfl), by repeat (first | (with_reducible first | exact HB.out | apply below_alloc | apply pw_below_drewN | apply below_drew1 | refine below_set ?_ GE177.out) | exact HB.out)⟩
          · rw [if_neg c7] at H
            exact absurd H (by simp)
        · rw [if_neg c6] at H
          exact absurd H (by simp)

end Go.Proofs.Ytmjpibeiglicdaa.X
