/- Functions of the program as plain Lean functions, and their contracts; written by a program out of the translation. -/
import Derived.Test.YtmjpibeiglicdaaE0
import Derived.Test.YtmjpibeiglicdaaE2
namespace Go.Proofs.Ytmjpibeiglicdaa.E
open Go.RowKit Go.Proofs.YtmjpibeiglicdaaU.PrintWords Go.Proofs.YtmjpibeiglicdaaU.PrintLast Go.Proofs.YtmjpibeiglicdaaU.PrintMore
attribute [local go_sem] max2_int min2_int max_two min_two max_three min_three max_four min_four   -- for this text's walks alone
set_option linter.unusedVariables false
set_option linter.unusedSimpArgs false

/-! ### tamisref23_local: function 75 -/
mutual
def tamisref23_local.j1 : Nat → List (S38) → Int → Int → Int → Int → Int → Int → Option (Int)
  | 0, _, _, _, _, _, _, _ => none
  | k + 1, x0, x1, x122000, x122001, x122002, x122003, x122004 => if x122000 = 4 then ((tamisref23_Marked.f k x0 x122003 0).bind fun t123 => (if t123 < x1 then (some 1) else (tamisref23_local.j2 k x0 x1 x122000 x122001 x122002 x122003 x122004))) else (tamisref23_local.j2 k x0 x1 x122000 x122001 x122002 x122003 x122004)
def tamisref23_local.j2 : Nat → List (S38) → Int → Int → Int → Int → Int → Int → Option (Int)
  | 0, _, _, _, _, _, _, _ => none
  | k + 1, x0, x1, x122000, x122001, x122002, x122003, x122004 => if x122000 = 2 then ((tamisref23_Marked.f k x0 x122003 x1).bind fun t124 => (if t124 < 0 then (some 15) else (if x122000 = 3 then ((tamisref23_Marked.f k x0 x122004 x1).bind fun t125 => (if t125 < 0 then (some 15) else (some 0))) else (some 0)))) else (if x122000 = 3 then ((tamisref23_Marked.f k x0 x122003 x1).bind fun t126 => (if t126 < 0 then (some 15) else ((tamisref23_Marked.f k x0 x122004 x1).bind fun t127 => (if t127 < 0 then (some 15) else (some 0))))) else (some 0))
def tamisref23_local.j0 : Nat → List (S38) → Int → Int → Int → Bool → Int → Int → Int → Int → Int → Option (Int)
  | 0, _, _, _, _, _, _, _, _, _, _ => none
  | k + 1, x0, x1, x6, x16, x39, x122000, x122001, x122002, x122003, x122004 => if x39 = true then (if x122001 = 0 then (if x122002 = 0 then (if x122004 = 0 then (tamisref23_local.j1 k x0 x1 x122000 x122001 x122002 x122003 x122004) else (some 3)) else (some 3)) else (some 3)) else (if x16 = 3 then (if x6 = 12 then (tamisref23_local.j1 k x0 x1 x122000 x122001 x122002 x122003 x122004) else (some 3)) else (some 3))
end
def tamisref23_local.f (k : Nat) (l0 : List (S38)) (a1 : Int) : Option (Int) := if 0 ≤ a1 then (if a1 < (l0.length : Int) then ((tamisref04_Kind.f k ((rd_T38 l0 a1).f1)).bind fun t122 => (if ((rd_T38 l0 a1).f0) = 1 then (if t122 = 0 then (some 3) else (if t122 = 11 then (some 3) else (if t122 = 12 then (some 3) else (if ((rd_T38 l0 a1).f3) = 0 then (if ((rd_T38 l0 a1).f4) = 0 then (tamisref23_local.j1 k l0 a1 ((rd_T38 l0 a1).f0) ((rd_T38 l0 a1).f1) ((rd_T38 l0 a1).f2) ((rd_T38 l0 a1).f3) ((rd_T38 l0 a1).f4)) else (some 3)) else (some 3))))) else (if ((rd_T38 l0 a1).f0) = 2 then (tamisref23_local.j0 k l0 a1 t122 ((rd_T38 l0 a1).f0) (((rd_T38 l0 a1).f0) == 2) ((rd_T38 l0 a1).f0) ((rd_T38 l0 a1).f1) ((rd_T38 l0 a1).f2) ((rd_T38 l0 a1).f3) ((rd_T38 l0 a1).f4)) else (tamisref23_local.j0 k l0 a1 t122 ((rd_T38 l0 a1).f0) (((rd_T38 l0 a1).f0) == 4) ((rd_T38 l0 a1).f0) ((rd_T38 l0 a1).f1) ((rd_T38 l0 a1).f2) ((rd_T38 l0 a1).f3) ((rd_T38 l0 a1).f4))))) else (none)) else (none)
theorem tamisref23_local.mono_l : ∀ k, (∀ y0 y1 y2 y3 y4 y5 y6, LeO (tamisref23_local.j1 k y0 y1 y2 y3 y4 y5 y6) (tamisref23_local.j1 (k + 1) y0 y1 y2 y3 y4 y5 y6)) ∧ (∀ y0 y1 y2 y3 y4 y5 y6, LeO (tamisref23_local.j2 k y0 y1 y2 y3 y4 y5 y6) (tamisref23_local.j2 (k + 1) y0 y1 y2 y3 y4 y5 y6)) ∧ (∀ y0 y1 y2 y3 y4 y5 y6 y7 y8 y9, LeO (tamisref23_local.j0 k y0 y1 y2 y3 y4 y5 y6 y7 y8 y9) (tamisref23_local.j0 (k + 1) y0 y1 y2 y3 y4 y5 y6 y7 y8 y9))
  | 0 => ⟨fun _ _ _ _ _ _ _ r h => by simp [tamisref23_local.j1] at h, fun _ _ _ _ _ _ _ r h => by simp [tamisref23_local.j2] at h, fun _ _ _ _ _ _ _ _ _ _ r h => by simp [tamisref23_local.j0] at h⟩
  | k + 1 => by
    obtain ⟨ih0, ih1, ih2⟩ := tamisref23_local.mono_l k
    refine ⟨?_, ?_, ?_⟩
    · intro y0 y1 y2 y3 y4 y5 y6
      unfold tamisref23_local.j1
      repeat' first
      | (with_reducible exact ih0 _ _ _ _ _ _ _)
      | (with_reducible exact ih1 _ _ _ _ _ _ _)
      | (with_reducible exact ih2 _ _ _ _ _ _ _ _ _ _)
      | (with_reducible exact tamisref04_Kind.mono _ _)
      | (with_reducible exact tamisref23_Marked.mono _ _ _ _)
      | (with_reducible exact LeO.refl _)
      | (with_reducible exact LeO.none _)
      | (with_reducible refine LeO.ite ?_ ?_)
      | (with_reducible refine LeO.bind ?_ (fun _ => ?_))
      | exact ih0 _ _ _ _ _ _ _
      | exact ih1 _ _ _ _ _ _ _
      | exact ih2 _ _ _ _ _ _ _ _ _ _
      | exact tamisref04_Kind.mono _ _
      | exact tamisref23_Marked.mono _ _ _ _
      | exact LeO.none _
      | refine LeO.ite ?_ ?_
      | refine LeO.bind ?_ (fun _ => ?_)
    · intro y0 y1 y2 y3 y4 y5 y6
      unfold tamisref23_local.j2
      repeat' first
      | (with_reducible exact ih0 _ _ _ _ _ _ _)
      | (with_reducible exact ih1 _ _ _ _ _ _ _)
      | (with_reducible exact ih2 _ _ _ _ _ _ _ _ _ _)
      | (with_reducible exact tamisref04_Kind.mono _ _)
      | (with_reducible exact tamisref23_Marked.mono _ _ _ _)
      | (with_reducible exact LeO.refl _)
      | (with_reducible exact LeO.none _)
      | (with_reducible refine LeO.ite ?_ ?_)
      | (with_reducible refine LeO.bind ?_ (fun _ => ?_))
      | exact ih0 _ _ _ _ _ _ _
      | exact ih1 _ _ _ _ _ _ _
      | exact ih2 _ _ _ _ _ _ _ _ _ _
      | exact tamisref04_Kind.mono _ _
      | exact tamisref23_Marked.mono _ _ _ _
      | exact LeO.none _
      | refine LeO.ite ?_ ?_
      | refine LeO.bind ?_ (fun _ => ?_)
    · intro y0 y1 y2 y3 y4 y5 y6 y7 y8 y9
      unfold tamisref23_local.j0
      repeat' first
      | (with_reducible exact ih0 _ _ _ _ _ _ _)
      | (with_reducible exact ih1 _ _ _ _ _ _ _)
      | (with_reducible exact ih2 _ _ _ _ _ _ _ _ _ _)
      | (with_reducible exact tamisref04_Kind.mono _ _)
      | (with_reducible exact tamisref23_Marked.mono _ _ _ _)
      | (with_reducible exact LeO.refl _)
      | (with_reducible exact LeO.none _)
      | (with_reducible refine LeO.ite ?_ ?_)
      | (with_reducible refine LeO.bind ?_ (fun _ => ?_))
      | exact ih0 _ _ _ _ _ _ _
      | exact ih1 _ _ _ _ _ _ _
      | exact ih2 _ _ _ _ _ _ _ _ _ _
      | exact tamisref04_Kind.mono _ _
      | exact tamisref23_Marked.mono _ _ _ _
      | exact LeO.none _
      | refine LeO.ite ?_ ?_
      | refine LeO.bind ?_ (fun _ => ?_)
theorem tamisref23_local.mono : ∀ a0 a1 k, LeO (tamisref23_local.f k a0 a1) (tamisref23_local.f (k + 1) a0 a1) := by
  intro a0 a1 k
  obtain ⟨ih0, ih1, ih2⟩ := tamisref23_local.mono_l k
  unfold tamisref23_local.f
  repeat' first
      | (with_reducible exact ih0 _ _ _ _ _ _ _)
      | (with_reducible exact ih1 _ _ _ _ _ _ _)
      | (with_reducible exact ih2 _ _ _ _ _ _ _ _ _ _)
      | (with_reducible exact tamisref04_Kind.mono _ _)
      | (with_reducible exact tamisref23_Marked.mono _ _ _ _)
      | (with_reducible exact LeO.refl _)
      | (with_reducible exact LeO.none _)
      | (with_reducible refine LeO.ite ?_ ?_)
      | (with_reducible refine LeO.bind ?_ (fun _ => ?_))
      | exact ih0 _ _ _ _ _ _ _
      | exact ih1 _ _ _ _ _ _ _
      | exact ih2 _ _ _ _ _ _ _ _ _ _
      | exact tamisref04_Kind.mono _ _
      | exact tamisref23_Marked.mono _ _ _ _
      | exact LeO.none _
      | refine LeO.ite ?_ ?_
      | refine LeO.bind ?_ (fun _ => ?_)
set_option maxHeartbeats 8000000 in
set_option maxRecDepth 100000 in
theorem tamisref23_local.calls (k : Nat) (P0_ : Nat → Prop) (A0 : Option Addr) (c0 : Nat) (l0 : List (S38)) (a1 : Int) (r : Int) (w : World) (hs0 : Kd.V k38 38 w w.heap.size (fun k_ => P0_ k_) (.slice A0 l0.length c0) l0) (h : tamisref23_local.f k l0 a1 = some r) :
    Calls Try.prog 75 #[.slice A0 l0.length c0, .int .i64 a1] w fun e w' => e = .returned (.int .i64 r) ∧ Below w.heap.size w w' := by
  have hu38 := Try.underlying38
  have HO0 := Aside0.mk (show Kd.V k38 38 w w.heap.size (fun k_ => (P0_ k_ ∨ w.heap.size ≤ k_)) (.slice A0 l0.length c0) l0 from Kd.V_mono hs0 (fun k_ hk => .inl hk))
  have HB := Aside0.mk (Below.refl w.heap.size w)
  have H : (if 0 ≤ a1 then (if a1 < (l0.length : Int) then ((tamisref04_Kind.f k ((rd_T38 l0 a1).f1)).bind fun t122 => (if ((rd_T38 l0 a1).f0) = 1 then (if t122 = 0 then (some 3) else (if t122 = 11 then (some 3) else (if t122 = 12 then (some 3) else (if ((rd_T38 l0 a1).f3) = 0 then (if ((rd_T38 l0 a1).f4) = 0 then (tamisref23_local.j1 k l0 a1 ((rd_T38 l0 a1).f0) ((rd_T38 l0 a1).f1) ((rd_T38 l0 a1).f2) ((rd_T38 l0 a1).f3) ((rd_T38 l0 a1).f4)) else (some 3)) else (some 3))))) else (if ((rd_T38 l0 a1).f0) = 2 then (tamisref23_local.j0 k l0 a1 t122 ((rd_T38 l0 a1).f0) (((rd_T38 l0 a1).f0) == 2) ((rd_T38 l0 a1).f0) ((rd_T38 l0 a1).f1) ((rd_T38 l0 a1).f2) ((rd_T38 l0 a1).f3) ((rd_T38 l0 a1).f4)) else (tamisref23_local.j0 k l0 a1 t122 ((rd_T38 l0 a1).f0) (((rd_T38 l0 a1).f0) == 4) ((rd_T38 l0 a1).f0) ((rd_T38 l0 a1).f1) ((rd_T38 l0 a1).f2) ((rd_T38 l0 a1).f3) ((rd_T38 l0 a1).f4))))) else (none)) else (none)) = some r := h
  clear h
  by_cases c3 : 0 ≤ a1
  · rw [if_pos c3] at H
    have c3b0 : decide (0 ≤ a1) = true := decide_eq_true c3
    clear c3
    by_cases c4 : a1 < (l0.length : Int)
    · rw [if_pos c4] at H
      have c4b0 : decide (a1 < (l0.length : Int)) = true := decide_eq_true c4
      clear c4
      replace H := Option.bind_eq_some_iff.mp H
      obtain ⟨t122, A50, H⟩ := H
      replace H : (if ((rd_T38 l0 a1).f0) = 1 then (if t122 = 0 then (some 3) else (if t122 = 11 then (some 3) else (if t122 = 12 then (some 3) else (if ((rd_T38 l0 a1).f3) = 0 then (if ((rd_T38 l0 a1).f4) = 0 then (tamisref23_local.j1 k l0 a1 ((rd_T38 l0 a1).f0) ((rd_T38 l0 a1).f1) ((rd_T38 l0 a1).f2) ((rd_T38 l0 a1).f3) ((rd_T38 l0 a1).f4)) else (some 3)) else (some 3))))) else (if ((rd_T38 l0 a1).f0) = 2 then (tamisref23_local.j0 k l0 a1 t122 ((rd_T38 l0 a1).f0) (((rd_T38 l0 a1).f0) == 2) ((rd_T38 l0 a1).f0) ((rd_T38 l0 a1).f1) ((rd_T38 l0 a1).f2) ((rd_T38 l0 a1).f3) ((rd_T38 l0 a1).f4)) else (tamisref23_local.j0 k l0 a1 t122 ((rd_T38 l0 a1).f0) (((rd_T38 l0 a1).f0) == 4) ((rd_T38 l0 a1).f0) ((rd_T38 l0 a1).f1) ((rd_T38 l0 a1).f2) ((rd_T38 l0 a1).f3) ((rd_T38 l0 a1).f4)))) = some r := H
      have A5 := Aside0.mk A50
      clear A50
      have HC6 := Aside0.mk H
      clear H
      have p120 : 0 ≤ (a1 : Int) := of_decide_eq_true (by first | (with_reducible assumption) | assumption)
      have q120 : a1 < (l0.length : Int) := of_decide_eq_true (by first | (with_reducible assumption) | assumption)
      obtain ⟨ad120, e120, hx120_0, hx120_1, hx120_2, hx120_3, hx120_4⟩ := at_T38 (Kd.V_reads' HO0.out).2.2 a1 p120 q120
      cases e120
      replace p120 := eq_true p120
      replace q120 := eq_true q120
      go_enter Try.func75, Try.ntmps75
      go_upto_block 0 with (first | ((with_reducible refine gate_dst (N := 5) rfl ?_); refine box_event ?hg (N := 5) ?hd (cs := #[.int .i64 0, .int .u16 0, .int .u32 0, .int .i64 0, .int .i64 0]) (t := 38) ?hr ?_; (case hd => rfl); (case hg => rfl); (case hr => first | (go_simp; done) | (go_simp; rfl)); intro gb121 hg w7 hbox hb; have n0_ := Aside0.mk (Kd.V_below (Kd.V_elderB (by (with_reducible repeat (first | apply Kd.V_alloc | apply Kd.V_drewN | apply Kd.V_drew)); exact HO0.out) gb121 (Nat.le_of_eq hg.symm)) hb); have n1_ := Aside0.mk (below_step (by repeat (first | (with_reducible first | exact HB.out | apply below_alloc | apply pw_below_drewN | apply below_drew1) | exact HB.out)) hb); have n2_ := Aside0.mk (hbox); have n3_ := Aside0.mk ((by rw [hg]; exact (below_size (by repeat (first | (with_reducible first | exact HB.out | apply below_alloc | apply pw_below_drewN | apply below_drew1) | exact HB.out))) : w.heap.size ≤ gb121)); have n4_ := Aside0.mk ((by rw [hg]; exact (below_size (by repeat (first | (with_reducible first | exact HB.out | apply below_alloc | apply pw_below_drewN | apply below_drew1) | exact HB.out))) : w.heap.size ≤ gb121)); clear HO0; clear HB; have HO0 := n0_; have HB := n1_; have BK121 := n2_; have GW121 := n3_; have GE121 := n4_; clear n0_ n1_ n2_ n3_ n4_; clear hb hbox hg; have hcz8_0 : w7.cell? ⟨gb121, 0, none⟩ = some (.int .i64 0) := (blk_cell BK121.out 0).trans rfl; have hcz8_1 : w7.cell? ⟨gb121, 1, none⟩ = some (.int .u16 0) := (blk_cell BK121.out 1).trans rfl; have hcz8_2 : w7.cell? ⟨gb121, 2, none⟩ = some (.int .u32 0) := (blk_cell BK121.out 2).trans rfl; have hcz8_3 : w7.cell? ⟨gb121, 3, none⟩ = some (.int .i64 0) := (blk_cell BK121.out 3).trans rfl; have hcz8_4 : w7.cell? ⟨gb121, 4, none⟩ = some (.int .i64 0) := (blk_cell BK121.out 4).trans rfl; have hfz8_0 := blk_frozen BK121.out 0; have hfz8_1 := blk_frozen BK121.out 1; have hfz8_2 := blk_frozen BK121.out 2; have hfz8_3 := blk_frozen BK121.out 3; have hfz8_4 := blk_frozen BK121.out 4) | ((with_reducible refine gate_callee (f := 45) rfl ?_); refine goesL_ (some 14) rfl rfl Try.func45 (by kernel_rfl) rfl #[.int .u16 ((rd_T38 l0 a1).f1)] rfl (by (try simp only [List.map_toArray, List.map_cons, List.map_nil]); first | done | rfl | (simp only [List.length_drop, List.length_take]; rfl)) ?_; (with_reducible refine (tamisref04_Kind.calls k ((rd_T38 l0 a1).f1) t122 _ A5.out).mono ?_); rintro e w9 ⟨rfl, hb⟩; refine ⟨_, rfl, ?_⟩; have n0_ := Aside0.mk (Kd.V_below (by (with_reducible repeat (first | apply Kd.V_alloc | apply Kd.V_drewN | apply Kd.V_drew)); exact (Kd.V_mono (Kd.V_far (p := ⟨gb121, 4, none⟩) (Kd.V_far (p := ⟨gb121, 3, none⟩) (Kd.V_far (p := ⟨gb121, 2, none⟩) (Kd.V_far (p := ⟨gb121, 1, none⟩) (Kd.V_far (p := ⟨gb121, 0, none⟩) (Kd.V_mono HO0.out (fun k_ hk => (⟨hk, hk.2⟩ : _ ∧ k_ ≠ gb121))) (fun _ hk => hk.2) (.int .i64 ((rd_T38 l0 a1).f0))) (fun _ hk => hk.2) (.int .u16 ((rd_T38 l0 a1).f1))) (fun _ hk => hk.2) (.int .u32 ((rd_T38 l0 a1).f2))) (fun _ hk => hk.2) (.int .i64 ((rd_T38 l0 a1).f3))) (fun _ hk => hk.2) (.int .i64 ((rd_T38 l0 a1).f4))) (fun _ h_ => h_.1))) hb); have n1_ := Aside0.mk (blk_below (g := gb121) (o := .cells #[.int .i64 ((rd_T38 l0 a1).f0), .int .u16 ((rd_T38 l0 a1).f1), .int .u32 ((rd_T38 l0 a1).f2), .int .i64 ((rd_T38 l0 a1).f3), .int .i64 ((rd_T38 l0 a1).f4)] 38 (0, 0)) (by (with_reducible repeat (first | refine blk_drewN ?_ _ | refine blk_drew ?_ | refine blk_alloc ?_ _)); refine blk_put (cs := #[.int .i64 ((rd_T38 l0 a1).f0), .int .u16 ((rd_T38 l0 a1).f1), .int .u32 ((rd_T38 l0 a1).f2), .int .i64 ((rd_T38 l0 a1).f3), .int .i64 0]) ?_ 4 _ rfl; (with_reducible repeat (first | refine blk_drewN ?_ _ | refine blk_drew ?_ | refine blk_alloc ?_ _)); refine blk_put (cs := #[.int .i64 ((rd_T38 l0 a1).f0), .int .u16 ((rd_T38 l0 a1).f1), .int .u32 ((rd_T38 l0 a1).f2), .int .i64 0, .int .i64 0]) ?_ 3 _ rfl; (with_reducible repeat (first | refine blk_drewN ?_ _ | refine blk_drew ?_ | refine blk_alloc ?_ _)); refine blk_put (cs := #[.int .i64 ((rd_T38 l0 a1).f0), .int .u16 ((rd_T38 l0 a1).f1), .int .u32 0, .int .i64 0, .int .i64 0]) ?_ 2 _ rfl; (with_reducible repeat (first | refine blk_drewN ?_ _ | refine blk_drew ?_ | refine blk_alloc ?_ _)); refine blk_put (cs := #[.int .i64 ((rd_T38 l0 a1).f0), .int .u16 0, .int .u32 0, .int .i64 0, .int .i64 0]) ?_ 1 _ rfl; (with_reducible repeat (first | refine blk_drewN ?_ _ | refine blk_drew ?_ | refine blk_alloc ?_ _)); refine blk_put (cs := #[.int .i64 0, .int .u16 0, .int .u32 0, .int .i64 0, .int .i64 0]) ?_ 0 _ rfl; (with_reducible repeat (first | refine blk_drewN ?_ _ | refine blk_drew ?_ | refine blk_alloc ?_ _)); exact BK121.out) hb); have n2_ := Aside0.mk (below_step (by repeat (first | (with_reducible first | exact HB.out | apply below_alloc | apply pw_below_drewN | apply below_drew1 | refine below_set ?_ GE121.out) | exact HB.out)) hb); clear HO0; clear BK121; clear HB; have HO0 := n0_; have BK121 := n1_; have HB := n2_; clear n0_ n1_ n2_; (try clear hb); (try clear hb2); (try clear hk); (try clear hi); have hcz10_0 : w9.cell? ⟨gb121, 0, none⟩ = some (.int .i64 ((rd_T38 l0 a1).f0)) := (blk_cell BK121.out 0).trans rfl; have hcz10_1 : w9.cell? ⟨gb121, 1, none⟩ = some (.int .u16 ((rd_T38 l0 a1).f1)) := (blk_cell BK121.out 1).trans rfl; have hcz10_2 : w9.cell? ⟨gb121, 2, none⟩ = some (.int .u32 ((rd_T38 l0 a1).f2)) := (blk_cell BK121.out 2).trans rfl; have hcz10_3 : w9.cell? ⟨gb121, 3, none⟩ = some (.int .i64 ((rd_T38 l0 a1).f3)) := (blk_cell BK121.out 3).trans rfl; have hcz10_4 : w9.cell? ⟨gb121, 4, none⟩ = some (.int .i64 ((rd_T38 l0 a1).f4)) := (blk_cell BK121.out 4).trans rfl; have hfz10_0 := blk_frozen BK121.out 0; have hfz10_1 := blk_frozen BK121.out 1; have hfz10_2 := blk_frozen BK121.out 2; have hfz10_3 := blk_frozen BK121.out 3; have hfz10_4 := blk_frozen BK121.out 4))
      (try simp only [Act.put, List.setIfInBounds_toArray, List.set_cons_zero, List.set_cons_succ])
      go_cut [] (fun wc => ∃ (kq : Nat), Aside0 (tamisref23_local.j1 kq l0 a1 ((rd_T38 l0 a1).f0) ((rd_T38 l0 a1).f1) ((rd_T38 l0 a1).f2) ((rd_T38 l0 a1).f3) ((rd_T38 l0 a1).f4) = some r) ∧ Aside0 (kq ≤ k) ∧ Aside0 (Kd.V k38 38 wc w.heap.size (fun k_ => (P0_ k_ ∨ w.heap.size ≤ k_) ∧ k_ ≠ gb121) (.slice (some ad120) l0.length c0) l0) ∧ Aside0 (wc.heap[gb121]? = some (.cells #[.int .i64 ((rd_T38 l0 a1).f0), .int .u16 ((rd_T38 l0 a1).f1), .int .u32 ((rd_T38 l0 a1).f2), .int .i64 ((rd_T38 l0 a1).f3), .int .i64 ((rd_T38 l0 a1).f4)] 38 (0, 0))) ∧ Aside0 (Below w.heap.size w wc))
      case first =>
        have H := HC6.out
        clear HC6
        by_cases c11 : ((rd_T38 l0 a1).f0) = 1
        · rw [if_pos c11] at H
          have c11b0 : (((rd_T38 l0 a1).f0) == 1) = true := beq_iff_eq.mpr c11
          have c11b1 : (((rd_T38 l0 a1).f0) != 1) = false := bne_eq_false_iff_eq.mpr c11
          clear c11
          (first | rw [c11b0] | (simp only [i64_w, i32_w]; rw [c11b0]) | skip)
          by_cases c12 : t122 = 0
          · rw [if_pos c12] at H
            have c12b0 : (t122 == 0) = true := beq_iff_eq.mpr c12
            have c12b1 : (t122 != 0) = false := bne_eq_false_iff_eq.mpr c12
            clear c12
            obtain rfl := Option.some.inj H
            go_wp2
            go_ret
            exact ⟨by first | rfl | (simp [errW_none, errW_some] <;> rfl) | (simp [*, errW_none, errW_some] <;> rfl), by repeat (first | (with_reducible first | exact HB.out | apply below_alloc | apply pw_below_drewN | apply below_drew1 | refine below_set ?_ GE121.out) | exact HB.out)⟩
          · rw [if_neg c12] at H
            have c12b0 : (t122 == 0) = false := beq_eq_false_iff_ne.mpr c12
            have c12b1 : (t122 != 0) = true := bne_iff_ne.mpr c12
            by_cases c13 : t122 = 11
            · rw [if_pos c13] at H
              have c13b0 : (t122 == 11) = true := beq_iff_eq.mpr c13
              have c13b1 : (t122 != 11) = false := bne_eq_false_iff_eq.mpr c13
              clear c13
              obtain rfl := Option.some.inj H
              go_wp2
              go_ret
              exact ⟨by first | rfl | (simp [errW_none, errW_some] <;> rfl) | (simp [*, errW_none, errW_some] <;> rfl), by repeat (first | (with_reducible first | exact HB.out | apply below_alloc | apply pw_below_drewN | apply below_drew1 | refine below_set ?_ GE121.out) | exact HB.out)⟩
            · rw [if_neg c13] at H
              have c13b0 : (t122 == 11) = false := beq_eq_false_iff_ne.mpr c13
              have c13b1 : (t122 != 11) = true := bne_iff_ne.mpr c13
              by_cases c14 : t122 = 12
              · rw [if_pos c14] at H
                have c14b0 : (t122 == 12) = true := beq_iff_eq.mpr c14
                have c14b1 : (t122 != 12) = false := bne_eq_false_iff_eq.mpr c14
                clear c14
                obtain rfl := Option.some.inj H
                go_wp2
                go_ret
                exact ⟨by first | rfl | (simp [errW_none, errW_some] <;> rfl) | (simp [*, errW_none, errW_some] <;> rfl), by repeat (first | (with_reducible first | exact HB.out | apply below_alloc | apply pw_below_drewN | apply below_drew1 | refine below_set ?_ GE121.out) | exact HB.out)⟩
              · rw [if_neg c14] at H
                have c14b0 : (t122 == 12) = false := beq_eq_false_iff_ne.mpr c14
                have c14b1 : (t122 != 12) = true := bne_iff_ne.mpr c14
                by_cases c15 : ((rd_T38 l0 a1).f3) = 0
                · rw [if_pos c15] at H
                  have c15b0 : (((rd_T38 l0 a1).f3) == 0) = true := beq_iff_eq.mpr c15
                  have c15b1 : (((rd_T38 l0 a1).f3) != 0) = false := bne_eq_false_iff_eq.mpr c15
                  clear c15
                  by_cases c16 : ((rd_T38 l0 a1).f4) = 0
                  · rw [if_pos c16] at H
                    have c16b0 : (((rd_T38 l0 a1).f4) == 0) = true := beq_iff_eq.mpr c16
                    have c16b1 : (((rd_T38 l0 a1).f4) != 0) = false := bne_eq_false_iff_eq.mpr c16
                    clear c16
                    have H' := Aside0.mk H
                    clear H
                    have hcz17_0 : w9.cell? ⟨gb121, 0, none⟩ = some (.int .i64 ((rd_T38 l0 a1).f0)) := (blk_cell BK121.out 0).trans rfl
                    have hcz17_1 : w9.cell? ⟨gb121, 1, none⟩ = some (.int .u16 ((rd_T38 l0 a1).f1)) := (blk_cell BK121.out 1).trans rfl
                    have hcz17_2 : w9.cell? ⟨gb121, 2, none⟩ = some (.int .u32 ((rd_T38 l0 a1).f2)) := (blk_cell BK121.out 2).trans rfl
                    have hcz17_3 : w9.cell? ⟨gb121, 3, none⟩ = some (.int .i64 ((rd_T38 l0 a1).f3)) := (blk_cell BK121.out 3).trans rfl
                    have hcz17_4 : w9.cell? ⟨gb121, 4, none⟩ = some (.int .i64 ((rd_T38 l0 a1).f4)) := (blk_cell BK121.out 4).trans rfl
                    have hfz17_0 := blk_frozen BK121.out 0
                    have hfz17_1 := blk_frozen BK121.out 1
                    have hfz17_2 := blk_frozen BK121.out 2
                    have hfz17_3 := blk_frozen BK121.out 3
                    have hfz17_4 := blk_frozen BK121.out 4
                    go_wp2
                    go_meet
                    case rel => exact ⟨_, H', ⟨by first | omega | exact Nat.le_refl _⟩, ⟨by (with_reducible repeat (first | apply Kd.V_alloc | apply Kd.V_drewN | apply Kd.V_drew)); exact HO0.out⟩, ⟨by (with_reducible repeat (first | refine blk_drewN ?_ _ | refine blk_drew ?_ | refine blk_alloc ?_ _)); exact BK121.out⟩, ⟨by repeat (first | (with_reducible first | exact HB.out | apply below_alloc | apply pw_below_drewN | apply below_drew1 | refine below_set ?_ GE121.out) | exact HB.out)⟩⟩
                  · rw [if_neg c16] at H
                    have c16b0 : (((rd_T38 l0 a1).f4) == 0) = false := beq_eq_false_iff_ne.mpr c16
                    have c16b1 : (((rd_T38 l0 a1).f4) != 0) = true := bne_iff_ne.mpr c16
                    obtain rfl := Option.some.inj H
                    have hcz18_0 : w9.cell? ⟨gb121, 0, none⟩ = some (.int .i64 ((rd_T38 l0 a1).f0)) := (blk_cell BK121.out 0).trans rfl
                    have hcz18_1 : w9.cell? ⟨gb121, 1, none⟩ = some (.int .u16 ((rd_T38 l0 a1).f1)) := (blk_cell BK121.out 1).trans rfl
                    have hcz18_2 : w9.cell? ⟨gb121, 2, none⟩ = some (.int .u32 ((rd_T38 l0 a1).f2)) := (blk_cell BK121.out 2).trans rfl
                    have hcz18_3 : w9.cell? ⟨gb121, 3, none⟩ = some (.int .i64 ((rd_T38 l0 a1).f3)) := (blk_cell BK121.out 3).trans rfl
                    have hcz18_4 : w9.cell? ⟨gb121, 4, none⟩ = some (.int .i64 ((rd_T38 l0 a1).f4)) := (blk_cell BK121.out 4).trans rfl
                    have hfz18_0 := blk_frozen BK121.out 0
                    have hfz18_1 := blk_frozen BK121.out 1
                    have hfz18_2 := blk_frozen BK121.out 2
                    have hfz18_3 := blk_frozen BK121.out 3
                    have hfz18_4 := blk_frozen BK121.out 4
                    go_wp2
                    go_ret
                    exact ⟨by first | rfl | (simp [errW_none, errW_some] <;> rfl) | (simp [*, errW_none, errW_some] <;> rfl), by repeat (first | (with_reducible first | exact HB.out | apply below_alloc | apply pw_below_drewN | apply below_drew1 | refine below_set ?_ GE121.out) | exact HB.out)⟩
                · rw [if_neg c15] at H
                  have c15b0 : (((rd_T38 l0 a1).f3) == 0) = false := beq_eq_false_iff_ne.mpr c15
                  have c15b1 : (((rd_T38 l0 a1).f3) != 0) = true := bne_iff_ne.mpr c15
                  obtain rfl := Option.some.inj H
                  have hcz19_0 : w9.cell? ⟨gb121, 0, none⟩ = some (.int .i64 ((rd_T38 l0 a1).f0)) := (blk_cell BK121.out 0).trans rfl
                  have hcz19_1 : w9.cell? ⟨gb121, 1, none⟩ = some (.int .u16 ((rd_T38 l0 a1).f1)) := (blk_cell BK121.out 1).trans rfl
                  have hcz19_2 : w9.cell? ⟨gb121, 2, none⟩ = some (.int .u32 ((rd_T38 l0 a1).f2)) := (blk_cell BK121.out 2).trans rfl
                  have hcz19_3 : w9.cell? ⟨gb121, 3, none⟩ = some (.int .i64 ((rd_T38 l0 a1).f3)) := (blk_cell BK121.out 3).trans rfl
                  have hcz19_4 : w9.cell? ⟨gb121, 4, none⟩ = some (.int .i64 ((rd_T38 l0 a1).f4)) := (blk_cell BK121.out 4).trans rfl
                  have hfz19_0 := blk_frozen BK121.out 0
                  have hfz19_1 := blk_frozen BK121.out 1
                  have hfz19_2 := blk_frozen BK121.out 2
                  have hfz19_3 := blk_frozen BK121.out 3
                  have hfz19_4 := blk_frozen BK121.out 4
                  go_wp2
                  go_ret
                  exact ⟨by first | rfl | (simp [errW_none, errW_some] <;> rfl) | (simp [*, errW_none, errW_some] <;> rfl), by repeat (first | (with_reducible first | exact HB.out | apply below_alloc | apply pw_below_drewN | apply below_drew1 | refine below_set ?_ GE121.out) | exact HB.out)⟩
        · rw [if_neg c11] at H
          have c11b0 : (((rd_T38 l0 a1).f0) == 1) = false := beq_eq_false_iff_ne.mpr c11
          have c11b1 : (((rd_T38 l0 a1).f0) != 1) = true := bne_iff_ne.mpr c11
          (first | rw [c11b0] | (simp only [i64_w, i32_w]; rw [c11b0]) | skip)
          have HC20 := Aside0.mk H
          clear H
          go_upto_if 39 with (fail)
          go_cut [39] (fun v39 wc => ∃ (kq : Nat) (x39_19 : Bool), v39 = .bool x39_19 ∧ Aside0 (tamisref23_local.j0 kq l0 a1 t122 ((rd_T38 l0 a1).f0) x39_19 ((rd_T38 l0 a1).f0) ((rd_T38 l0 a1).f1) ((rd_T38 l0 a1).f2) ((rd_T38 l0 a1).f3) ((rd_T38 l0 a1).f4) = some r) ∧ Aside0 (kq ≤ k) ∧ Aside0 (Kd.V k38 38 wc w.heap.size (fun k_ => (P0_ k_ ∨ w.heap.size ≤ k_) ∧ k_ ≠ gb121) (.slice (some ad120) l0.length c0) l0) ∧ Aside0 (wc.heap[gb121]? = some (.cells #[.int .i64 ((rd_T38 l0 a1).f0), .int .u16 ((rd_T38 l0 a1).f1), .int .u32 ((rd_T38 l0 a1).f2), .int .i64 ((rd_T38 l0 a1).f3), .int .i64 ((rd_T38 l0 a1).f4)] 38 (0, 0))) ∧ Aside0 (Below w.heap.size w wc))
          case first =>
            have H := HC20.out
            clear HC20
            by_cases c21 : ((rd_T38 l0 a1).f0) = 2
            · rw [if_pos c21] at H
              have c21b0 : (((rd_T38 l0 a1).f0) == 2) = true := beq_iff_eq.mpr c21
              have c21b1 : (((rd_T38 l0 a1).f0) != 2) = false := bne_eq_false_iff_eq.mpr c21
              clear c21
              (first | rw [c21b0] | (simp only [i64_w, i32_w]; rw [c21b0]) | skip)
              have H' := Aside0.mk H
              clear H
              go_wp2
              go_meet
              case rel => exact ⟨_, ((((rd_T38 l0 a1).f0) == 2)), (by first | rfl | (simp; done) | (simp [*]; done)), H', ⟨by first | omega | exact Nat.le_refl _⟩, ⟨by (with_reducible repeat (first | apply Kd.V_alloc | apply Kd.V_drewN | apply Kd.V_drew)); exact HO0.out⟩, ⟨by (with_reducible repeat (first | refine blk_drewN ?_ _ | refine blk_drew ?_ | refine blk_alloc ?_ _)); exact BK121.out⟩, ⟨by repeat (first | (with_reducible first | exact HB.out | apply below_alloc | apply pw_below_drewN | apply below_drew1 | refine below_set ?_ GE121.out) | exact HB.out)⟩⟩
            · rw [if_neg c21] at H
              have c21b0 : (((rd_T38 l0 a1).f0) == 2) = false := beq_eq_false_iff_ne.mpr c21
              have c21b1 : (((rd_T38 l0 a1).f0) != 2) = true := bne_iff_ne.mpr c21
              (first | rw [c21b0] | (simp only [i64_w, i32_w]; rw [c21b0]) | skip)
              have H' := Aside0.mk H
              clear H
              go_wp2
              go_meet
              case rel => exact ⟨_, ((((rd_T38 l0 a1).f0) == 4)), (by first | rfl | (simp; done) | (simp [*]; done)), H', ⟨by first | omega | exact Nat.le_refl _⟩, ⟨by (with_reducible repeat (first | apply Kd.V_alloc | apply Kd.V_drewN | apply Kd.V_drew)); exact HO0.out⟩, ⟨by (with_reducible repeat (first | refine blk_drewN ?_ _ | refine blk_drew ?_ | refine blk_alloc ?_ _)); exact BK121.out⟩, ⟨by repeat (first | (with_reducible first | exact HB.out | apply below_alloc | apply pw_below_drewN | apply below_drew1 | refine below_set ?_ GE121.out) | exact HB.out)⟩⟩
          case rest =>
            clear HC20
            try clear c1
            try clear p1
            try clear q1
            try clear hx1
            try clear c2
            try clear p2
            try clear c3
            try clear c3b0
            try clear c4
            try clear c4b0
            try clear c7
            try clear c11
            try clear c11b0
            try clear c11b1
            try clear c12
            try clear c12b0
            try clear c12b1
            try clear p12
            try clear q12
            try clear hx12
            try clear c13
            try clear c13b0
            try clear c13b1
            try clear c14
            try clear c14b0
            try clear c14b1
            try clear c15
            try clear c15b0
            try clear c15b1
            try clear c16
            try clear c16b0
            try clear c16b1
            try clear c21
            try clear c21b0
            try clear c21b1
            try clear hcz10_0
            try clear hcz10_1
            try clear hcz10_2
            try clear hcz10_3
            try clear hcz10_4
            try clear hcz17_0
            try clear hcz17_1
            try clear hcz17_2
            try clear hcz17_3
            try clear hcz17_4
            try clear hcz18_0
            try clear hcz18_1
            try clear hcz18_2
            try clear hcz18_3
            try clear hcz18_4
            try clear hcz19_0
            try clear hcz19_1
            try clear hcz19_2
            try clear hcz19_3
            try clear hcz19_4
            try clear hcz8_0
            try clear hcz8_1
            try clear hcz8_2
            try clear hcz8_3
            try clear hcz8_4
            try clear hfz10_0
            try clear hfz10_1
            try clear hfz10_2
            try clear hfz10_3
            try clear hfz10_4
            try clear hfz17_0
            try clear hfz17_1
            try clear hfz17_2
            try clear hfz17_3
            try clear hfz17_4
            try clear hfz18_0
            try clear hfz18_1
            try clear hfz18_2
            try clear hfz18_3
            try clear hfz18_4
            try clear hfz19_0
            try clear hfz19_1
            try clear hfz19_2
            try clear hfz19_3
            try clear hfz19_4
            try clear hfz8_0
            try clear hfz8_1
            try clear hfz8_2
            try clear hfz8_3
            try clear hfz8_4
            try clear hx120_0
            try clear hx120_1
            try clear hx120_2
            try clear hx120_3
            try clear hx120_4
            try clear p120
            try clear q120
            obtain ⟨kq, x39_19, rfl, HA, HJ19, HO_0, BK121, HB⟩ := hcut
            cases kq with
            | zero => exact absurd HA.out (by simp [tamisref23_local.j0])
            | succ kj19 =>
              have H := HA.out
              clear HA
              simp only [tamisref23_local.j0] at H
              by_cases c22 : x39_19 = true
              · subst c22
                have H1 : (if ((rd_T38 l0 a1).f1) = 0 then (if ((rd_T38 l0 a1).f2) = 0 then (if ((rd_T38 l0 a1).f4) = 0 then (tamisref23_local.j1 kj19 l0 a1 ((rd_T38 l0 a1).f0) ((rd_T38 l0 a1).f1) ((rd_T38 l0 a1).f2) ((rd_T38 l0 a1).f3) ((rd_T38 l0 a1).f4)) else (some 3)) else (some 3)) else (some 3)) = some r := by rw [if_pos rfl] at H; exact H
                clear H
                have H := H1
                clear H1
                by_cases c23 : ((rd_T38 l0 a1).f1) = 0
                · rw [if_pos c23] at H
                  have c23b0 : (((rd_T38 l0 a1).f1) == 0) = true := beq_iff_eq.mpr c23
                  have c23b1 : (((rd_T38 l0 a1).f1) != 0) = false := bne_eq_false_iff_eq.mpr c23
                  clear c23
                  by_cases c24 : ((rd_T38 l0 a1).f2) = 0
                  · rw [if_pos c24] at H
                    have c24b0 : (((rd_T38 l0 a1).f2) == 0) = true := beq_iff_eq.mpr c24
                    have c24b1 : (((rd_T38 l0 a1).f2) != 0) = false := bne_eq_false_iff_eq.mpr c24
                    clear c24
                    by_cases c25 : ((rd_T38 l0 a1).f4) = 0
                    · rw [if_pos c25] at H
                      have c25b0 : (((rd_T38 l0 a1).f4) == 0) = true := beq_iff_eq.mpr c25
                      have c25b1 : (((rd_T38 l0 a1).f4) != 0) = false := bne_eq_false_iff_eq.mpr c25
                      clear c25
                      have H' := Aside0.mk H
                      clear H
                      have hcz26_0 : wc.cell? ⟨gb121, 0, none⟩ = some (.int .i64 ((rd_T38 l0 a1).f0)) := (blk_cell BK121.out 0).trans rfl
                      have hcz26_1 : wc.cell? ⟨gb121, 1, none⟩ = some (.int .u16 ((rd_T38 l0 a1).f1)) := (blk_cell BK121.out 1).trans rfl
                      have hcz26_2 : wc.cell? ⟨gb121, 2, none⟩ = some (.int .u32 ((rd_T38 l0 a1).f2)) := (blk_cell BK121.out 2).trans rfl
                      have hcz26_3 : wc.cell? ⟨gb121, 3, none⟩ = some (.int .i64 ((rd_T38 l0 a1).f3)) := (blk_cell BK121.out 3).trans rfl
                      have hcz26_4 : wc.cell? ⟨gb121, 4, none⟩ = some (.int .i64 ((rd_T38 l0 a1).f4)) := (blk_cell BK121.out 4).trans rfl
                      have hfz26_0 := blk_frozen BK121.out 0
                      have hfz26_1 := blk_frozen BK121.out 1
                      have hfz26_2 := blk_frozen BK121.out 2
                      have hfz26_3 := blk_frozen BK121.out 3
                      have hfz26_4 := blk_frozen BK121.out 4
                      go_wp2
                      go_meet
                      case rel => exact ⟨_, H', ⟨by have := HJ19.out; first | omega | exact Nat.le_refl _⟩, ⟨by (with_reducible repeat (first | apply Kd.V_alloc | apply Kd.V_drewN | apply Kd.V_drew)); exact HO_0.out⟩, ⟨by (with_reducible repeat (first | refine blk_drewN ?_ _ | refine blk_drew ?_ | refine blk_alloc ?_ _)); exact BK121.out⟩, ⟨by repeat (first | (with_reducible first | exact HB.out | apply below_alloc | apply pw_below_drewN | apply below_drew1 | refine below_set ?_ GE121.out) | exact HB.out)⟩⟩
                    · rw [if_neg c25] at H
                      have c25b0 : (((rd_T38 l0 a1).f4) == 0) = false := beq_eq_false_iff_ne.mpr c25
                      have c25b1 : (((rd_T38 l0 a1).f4) != 0) = true := bne_iff_ne.mpr c25
                      obtain rfl := Option.some.inj H
                      have hcz27_0 : wc.cell? ⟨gb121, 0, none⟩ = some (.int .i64 ((rd_T38 l0 a1).f0)) := (blk_cell BK121.out 0).trans rfl
                      have hcz27_1 : wc.cell? ⟨gb121, 1, none⟩ = some (.int .u16 ((rd_T38 l0 a1).f1)) := (blk_cell BK121.out 1).trans rfl
                      have hcz27_2 : wc.cell? ⟨gb121, 2, none⟩ = some (.int .u32 ((rd_T38 l0 a1).f2)) := (blk_cell BK121.out 2).trans rfl
                      have hcz27_3 : wc.cell? ⟨gb121, 3, none⟩ = some (.int .i64 ((rd_T38 l0 a1).f3)) := (blk_cell BK121.out 3).trans rfl
                      have hcz27_4 : wc.cell? ⟨gb121, 4, none⟩ = some (.int .i64 ((rd_T38 l0 a1).f4)) := (blk_cell BK121.out 4).trans rfl
                      have hfz27_0 := blk_frozen BK121.out 0
                      have hfz27_1 := blk_frozen BK121.out 1
                      have hfz27_2 := blk_frozen BK121.out 2
                      have hfz27_3 := blk_frozen BK121.out 3
                      have hfz27_4 := blk_frozen BK121.out 4
                      go_wp2
                      go_ret
                      exact ⟨by first | rfl | (simp [errW_none, errW_some] <;> rfl) | (simp [*, errW_none, errW_some] <;> rfl), by repeat (first | (with_reducible first | exact HB.out | apply below_alloc | apply pw_below_drewN | apply below_drew1 | refine below_set ?_ GE121.out) | exact HB.out)⟩
                  · rw [if_neg c24] at H
                    have c24b0 : (((rd_T38 l0 a1).f2) == 0) = false := beq_eq_false_iff_ne.mpr c24
                    have c24b1 : (((rd_T38 l0 a1).f2) != 0) = true := bne_iff_ne.mpr c24
                    obtain rfl := Option.some.inj H
                    have hcz28_0 : wc.cell? ⟨gb121, 0, none⟩ = some (.int .i64 ((rd_T38 l0 a1).f0)) := (blk_cell BK121.out 0).trans rfl
                    have hcz28_1 : wc.cell? ⟨gb121, 1, none⟩ = some (.int .u16 ((rd_T38 l0 a1).f1)) := (blk_cell BK121.out 1).trans rfl
                    have hcz28_2 : wc.cell? ⟨gb121, 2, none⟩ = some (.int .u32 ((rd_T38 l0 a1).f2)) := (blk_cell BK121.out 2).trans rfl
                    have hcz28_3 : wc.cell? ⟨gb121, 3, none⟩ = some (.int .i64 ((rd_T38 l0 a1).f3)) := (blk_cell BK121.out 3).trans rfl
                    have hcz28_4 : wc.cell? ⟨gb121, 4, none⟩ = some (.int .i64 ((rd_T38 l0 a1).f4)) := (blk_cell BK121.out 4).trans rfl
                    have hfz28_0 := blk_frozen BK121.out 0
                    have hfz28_1 := blk_frozen BK121.out 1
                    have hfz28_2 := blk_frozen BK121.out 2
                    have hfz28_3 := blk_frozen BK121.out 3
                    have hfz28_4 := blk_frozen BK121.out 4
                    go_wp2
                    go_ret
                    exact ⟨by first | rfl | (simp [errW_none, errW_some] <;> rfl) | (simp [*, errW_none, errW_some] <;> rfl), by repeat (first | (with_reducible first | exact HB.out | apply below_alloc | apply pw_below_drewN | apply below_drew1 | refine below_set ?_ GE121.out) | exact HB.out)⟩
                · rw [if_neg c23] at H
                  have c23b0 : (((rd_T38 l0 a1).f1) == 0) = false := beq_eq_false_iff_ne.mpr c23
                  have c23b1 : (((rd_T38 l0 a1).f1) != 0) = true := bne_iff_ne.mpr c23
                  obtain rfl := Option.some.inj H
                  have hcz29_0 : wc.cell? ⟨gb121, 0, none⟩ = some (.int .i64 ((rd_T38 l0 a1).f0)) := (blk_cell BK121.out 0).trans rfl
                  have hcz29_1 : wc.cell? ⟨gb121, 1, none⟩ = some (.int .u16 ((rd_T38 l0 a1).f1)) := (blk_cell BK121.out 1).trans rfl
                  have hcz29_2 : wc.cell? ⟨gb121, 2, none⟩ = some (.int .u32 ((rd_T38 l0 a1).f2)) := (blk_cell BK121.out 2).trans rfl
                  have hcz29_3 : wc.cell? ⟨gb121, 3, none⟩ = some (.int .i64 ((rd_T38 l0 a1).f3)) := (blk_cell BK121.out 3).trans rfl
                  have hcz29_4 : wc.cell? ⟨gb121, 4, none⟩ = some (.int .i64 ((rd_T38 l0 a1).f4)) := (blk_cell BK121.out 4).trans rfl
                  have hfz29_0 := blk_frozen BK121.out 0
                  have hfz29_1 := blk_frozen BK121.out 1
                  have hfz29_2 := blk_frozen BK121.out 2
                  have hfz29_3 := blk_frozen BK121.out 3
                  have hfz29_4 := blk_frozen BK121.out 4
                  go_wp2
                  go_ret
                  exact ⟨by first | rfl | (simp [errW_none, errW_some] <;> rfl) | (simp [*, errW_none, errW_some] <;> rfl), by repeat (first | (with_reducible first | exact HB.out | apply below_alloc | apply pw_below_drewN | apply below_drew1 | refine below_set ?_ GE121.out) | exact HB.out)⟩
              · replace c22 := Bool.eq_false_iff.mpr c22
                subst c22
                have H1 : (if ((rd_T38 l0 a1).f0) = 3 then (if t122 = 12 then (tamisref23_local.j1 kj19 l0 a1 ((rd_T38 l0 a1).f0) ((rd_T38 l0 a1).f1) ((rd_T38 l0 a1).f2) ((rd_T38 l0 a1).f3) ((rd_T38 l0 a1).f4)) else (some 3)) else (some 3)) = some r := by rw [if_neg (show ¬ (false = true) by decide)] at H; exact H
                clear H
                have H := H1
                clear H1
                by_cases c30 : ((rd_T38 l0 a1).f0) = 3
                · rw [if_pos c30] at H
                  have c30b0 : (((rd_T38 l0 a1).f0) == 3) = true := beq_iff_eq.mpr c30
                  have c30b1 : (((rd_T38 l0 a1).f0) != 3) = false := bne_eq_false_iff_eq.mpr c30
                  clear c30
                  by_cases c31 : t122 = 12
                  · rw [if_pos c31] at H
                    have c31b0 : (t122 == 12) = true := beq_iff_eq.mpr c31
                    have c31b1 : (t122 != 12) = false := bne_eq_false_iff_eq.mpr c31
                    clear c31
                    have H' := Aside0.mk H
                    clear H
                    go_wp2
                    go_meet
                    case rel => exact ⟨_, H', ⟨by have := HJ19.out; first | omega | exact Nat.le_refl _⟩, ⟨by (with_reducible repeat (first | apply Kd.V_alloc | apply Kd.V_drewN | apply Kd.V_drew)); exact HO_0.out⟩, ⟨by (with_reducible repeat (first | refine blk_drewN ?_ _ | refine blk_drew ?_ | refine blk_alloc ?_ _)); exact BK121.out⟩, ⟨by repeat (first | (with_reducible first | exact HB.out | apply below_alloc | apply pw_below_drewN | apply below_drew1 | refine below_set ?_ GE121.out) | exact HB.out)⟩⟩
                  · rw [if_neg c31] at H
                    have c31b0 : (t122 == 12) = false := beq_eq_false_iff_ne.mpr c31
                    have c31b1 : (t122 != 12) = true := bne_iff_ne.mpr c31
                    obtain rfl := Option.some.inj H
                    go_wp2
                    go_ret
                    exact ⟨by first | rfl | (simp [errW_none, errW_some] <;> rfl) | (simp [*, errW_none, errW_some] <;> rfl), by repeat (first | (with_reducible first | exact HB.out | apply below_alloc | apply pw_below_drewN | apply below_drew1 | refine below_set ?_ GE121.out) | exact HB.out)⟩
                · rw [if_neg c30] at H
                  have c30b0 : (((rd_T38 l0 a1).f0) == 3) = false := beq_eq_false_iff_ne.mpr c30
                  have c30b1 : (((rd_T38 l0 a1).f0) != 3) = true := bne_iff_ne.mpr c30
                  obtain rfl := Option.some.inj H
                  go_wp2
                  go_ret
                  exact ⟨by first | rfl | (simp [errW_none, errW_some] <;> rfl) | (simp [*, errW_none, errW_some] <;> rfl), by repeat (first | (with_reducible first | exact HB.out | apply below_alloc | apply pw_below_drewN | apply below_drew1 | refine below_set ?_ GE121.out) | exact HB.out)⟩
      case rest =>
        clear HC6
        try clear c1
        try clear p1
        try clear q1
        try clear hx1
        try clear c2
        try clear p2
        try clear c3
        try clear c3b0
        try clear c4
        try clear c4b0
        try clear c7
        try clear c11
        try clear c11b0
        try clear c11b1
        try clear c12
        try clear c12b0
        try clear c12b1
        try clear p12
        try clear q12
        try clear hx12
        try clear c13
        try clear c13b0
        try clear c13b1
        try clear c14
        try clear c14b0
        try clear c14b1
        try clear c15
        try clear c15b0
        try clear c15b1
        try clear c16
        try clear c16b0
        try clear c16b1
        try clear c21
        try clear c21b0
        try clear c21b1
        try clear c22
        try clear c23
        try clear c23b0
        try clear c23b1
        try clear c24
        try clear c24b0
        try clear c24b1
        try clear c25
        try clear c25b0
        try clear c25b1
        try clear c30
        try clear c30b0
        try clear c30b1
        try clear c31
        try clear c31b0
        try clear c31b1
        try clear hcz10_0
        try clear hcz10_1
        try clear hcz10_2
        try clear hcz10_3
        try clear hcz10_4
        try clear hcz17_0
        try clear hcz17_1
        try clear hcz17_2
        try clear hcz17_3
        try clear hcz17_4
        try clear hcz18_0
        try clear hcz18_1
        try clear hcz18_2
        try clear hcz18_3
        try clear hcz18_4
        try clear hcz19_0
        try clear hcz19_1
        try clear hcz19_2
        try clear hcz19_3
        try clear hcz19_4
        try clear hcz26_0
        try clear hcz26_1
        try clear hcz26_2
        try clear hcz26_3
        try clear hcz26_4
        try clear hcz27_0
        try clear hcz27_1
        try clear hcz27_2
        try clear hcz27_3
        try clear hcz27_4
        try clear hcz28_0
        try clear hcz28_1
        try clear hcz28_2
        try clear hcz28_3
        try clear hcz28_4
        try clear hcz29_0
        try clear hcz29_1
        try clear hcz29_2
        try clear hcz29_3
        try clear hcz29_4
        try clear hcz8_0
        try clear hcz8_1
        try clear hcz8_2
        try clear hcz8_3
        try clear hcz8_4
        try clear hfz10_0
        try clear hfz10_1
        try clear hfz10_2
        try clear hfz10_3
        try clear hfz10_4
        try clear hfz17_0
        try clear hfz17_1
        try clear hfz17_2
        try clear hfz17_3
        try clear hfz17_4
        try clear hfz18_0
        try clear hfz18_1
        try clear hfz18_2
        try clear hfz18_3
        try clear hfz18_4
        try clear hfz19_0
        try clear hfz19_1
        try clear hfz19_2
        try clear hfz19_3
        try clear hfz19_4
        try clear hfz26_0
        try clear hfz26_1
        try clear hfz26_2
        try clear hfz26_3
        try clear hfz26_4
        try clear hfz27_0
        try clear hfz27_1
        try clear hfz27_2
        try clear hfz27_3
        try clear hfz27_4
        try clear hfz28_0
        try clear hfz28_1
        try clear hfz28_2
        try clear hfz28_3
        try clear hfz28_4
        try clear hfz29_0
        try clear hfz29_1
        try clear hfz29_2
        try clear hfz29_3
        try clear hfz29_4
        try clear hfz8_0
        try clear hfz8_1
        try clear hfz8_2
        try clear hfz8_3
        try clear hfz8_4
        try clear hx120_0
        try clear hx120_1
        try clear hx120_2
        try clear hx120_3
        try clear hx120_4
        try clear p1
        try clear p12
        try clear p120
        try clear p2
        try clear q1
        try clear q12
        try clear q120
        obtain ⟨kq, HA, HJ5, HO_0, BK121, HB⟩ := hcut
        cases kq with
        | zero => exact absurd HA.out (by simp [tamisref23_local.j1])
        | succ kj5 =>
          have H := HA.out
          clear HA
          simp only [tamisref23_local.j1] at H
          have HC32 := Aside0.mk H
          clear H
          have hcz33_0 : wc.cell? ⟨gb121, 0, none⟩ = some (.int .i64 ((rd_T38 l0 a1).f0)) := (blk_cell BK121.out 0).trans rfl
          have hcz33_1 : wc.cell? ⟨gb121, 1, none⟩ = some (.int .u16 ((rd_T38 l0 a1).f1)) := (blk_cell BK121.out 1).trans rfl
          have hcz33_2 : wc.cell? ⟨gb121, 2, none⟩ = some (.int .u32 ((rd_T38 l0 a1).f2)) := (blk_cell BK121.out 2).trans rfl
          have hcz33_3 : wc.cell? ⟨gb121, 3, none⟩ = some (.int .i64 ((rd_T38 l0 a1).f3)) := (blk_cell BK121.out 3).trans rfl
          have hcz33_4 : wc.cell? ⟨gb121, 4, none⟩ = some (.int .i64 ((rd_T38 l0 a1).f4)) := (blk_cell BK121.out 4).trans rfl
          have hfz33_0 := blk_frozen BK121.out 0
          have hfz33_1 := blk_frozen BK121.out 1
          have hfz33_2 := blk_frozen BK121.out 2
          have hfz33_3 := blk_frozen BK121.out 3
          have hfz33_4 := blk_frozen BK121.out 4
          go_upto_if 61 with (fail)
          go_cut [] (fun wc => ∃ (kq : Nat), Aside0 (tamisref23_local.j2 kq l0 a1 ((rd_T38 l0 a1).f0) ((rd_T38 l0 a1).f1) ((rd_T38 l0 a1).f2) ((rd_T38 l0 a1).f3) ((rd_T38 l0 a1).f4) = some r) ∧ Aside0 (kq ≤ kj5) ∧ Aside0 (Kd.V k38 38 wc w.heap.size (fun k_ => (P0_ k_ ∨ w.heap.size ≤ k_) ∧ k_ ≠ gb121) (.slice (some ad120) l0.length c0) l0) ∧ Aside0 (wc.heap[gb121]? = some (.cells #[.int .i64 ((rd_T38 l0 a1).f0), .int .u16 ((rd_T38 l0 a1).f1), .int .u32 ((rd_T38 l0 a1).f2), .int .i64 ((rd_T38 l0 a1).f3), .int .i64 ((rd_T38 l0 a1).f4)] 38 (0, 0))) ∧ Aside0 (Below w.heap.size w wc))
          case first =>
            have H := HC32.out
            clear HC32
            by_cases c34 : ((rd_T38 l0 a1).f0) = 4
            · rw [if_pos c34] at H
              have c34b0 : (((rd_T38 l0 a1).f0) == 4) = true := beq_iff_eq.mpr c34
              have c34b1 : (((rd_T38 l0 a1).f0) != 4) = false := bne_eq_false_iff_eq.mpr c34
              clear c34
              (first | rw [c34b0] | (simp only [i64_w, i32_w]; rw [c34b0]) | skip)
              replace H := Option.bind_eq_some_iff.mp H
              obtain ⟨t123, A350, H⟩ := H
              replace H : (if t123 < a1 then (some 1) else (tamisref23_local.j2 kj5 l0 a1 ((rd_T38 l0 a1).f0) ((rd_T38 l0 a1).f1) ((rd_T38 l0 a1).f2) ((rd_T38 l0 a1).f3) ((rd_T38 l0 a1).f4))) = some r := H
              have A35 := Aside0.mk A350
              clear A350
              by_cases c36 : t123 < a1
              · rw [if_pos c36] at H
                have c36b0 : decide (t123 < a1) = true := decide_eq_true c36
                clear c36
                obtain rfl := Option.some.inj H
                have hcz37_0 : wc.cell? ⟨gb121, 0, none⟩ = some (.int .i64 ((rd_T38 l0 a1).f0)) := (blk_cell BK121.out 0).trans rfl
                have hcz37_1 : wc.cell? ⟨gb121, 1, none⟩ = some (.int .u16 ((rd_T38 l0 a1).f1)) := (blk_cell BK121.out 1).trans rfl
                have hcz37_2 : wc.cell? ⟨gb121, 2, none⟩ = some (.int .u32 ((rd_T38 l0 a1).f2)) := (blk_cell BK121.out 2).trans rfl
                have hcz37_3 : wc.cell? ⟨gb121, 3, none⟩ = some (.int .i64 ((rd_T38 l0 a1).f3)) := (blk_cell BK121.out 3).trans rfl
                have hcz37_4 : wc.cell? ⟨gb121, 4, none⟩ = some (.int .i64 ((rd_T38 l0 a1).f4)) := (blk_cell BK121.out 4).trans rfl
                have hfz37_0 := blk_frozen BK121.out 0
                have hfz37_1 := blk_frozen BK121.out 1
                have hfz37_2 := blk_frozen BK121.out 2
                have hfz37_3 := blk_frozen BK121.out 3
                have hfz37_4 := blk_frozen BK121.out 4
                go_wp2_with (first | ((with_reducible refine gate_callee (f := 58) rfl ?_); refine goesL_ (some 65) rfl rfl Try.func58 (by kernel_rfl) rfl #[.slice (some ad120) l0.length c0, .int .i64 ((rd_T38 l0 a1).f3), .int .i64 0] rfl (by (try simp only [List.map_toArray, List.map_cons, List.map_nil]); first | done | rfl | (simp only [List.length_drop, List.length_take]; rfl)) ?_; (with_reducible refine (tamisref23_Marked.calls kj5 _ _ l0 ((rd_T38 l0 a1).f3) 0 t123 _ ?side1 ?side2 A35.out).mono ?_); (case side1 => repeat (first | exact (Kd.V_reads' HO_0.out).2.2 | (with_reducible refine Kd.C_alloc ?_ _) | (with_reducible refine Kd.C_drewN ?_ _) | (with_reducible refine Kd.C_drew ?_))); (case side2 => exact (Kd.V_reads' HO_0.out).2.1); rintro e w' ⟨rfl, ⟨nd, rfl⟩⟩; refine ⟨_, rfl, ?_⟩))
                go_ret
                exact ⟨by first | rfl | (simp [errW_none, errW_some] <;> rfl) | (simp [*, errW_none, errW_some] <;> rfl), by repeat (first | (with_reducible first | exact HB.out | apply below_alloc | apply pw_below_drewN | apply below_drew1 | refine below_set ?_ GE121.out) | exact HB.out)⟩
              · rw [if_neg c36] at H
                have c36b0 : decide (t123 < a1) = false := decide_eq_false c36
                clear c36
                have H' := Aside0.mk H
                clear H
                have hcz38_0 : wc.cell? ⟨gb121, 0, none⟩ = some (.int .i64 ((rd_T38 l0 a1).f0)) := (blk_cell BK121.out 0).trans rfl
                have hcz38_1 : wc.cell? ⟨gb121, 1, none⟩ = some (.int .u16 ((rd_T38 l0 a1).f1)) := (blk_cell BK121.out 1).trans rfl
                have hcz38_2 : wc.cell? ⟨gb121, 2, none⟩ = some (.int .u32 ((rd_T38 l0 a1).f2)) := (blk_cell BK121.out 2).trans rfl
                have hcz38_3 : wc.cell? ⟨gb121, 3, none⟩ = some (.int .i64 ((rd_T38 l0 a1).f3)) := (blk_cell BK121.out 3).trans rfl
                have hcz38_4 : wc.cell? ⟨gb121, 4, none⟩ = some (.int .i64 ((rd_T38 l0 a1).f4)) := (blk_cell BK121.out 4).trans rfl
                have hfz38_0 := blk_frozen BK121.out 0
                have hfz38_1 := blk_frozen BK121.out 1
                have hfz38_2 := blk_frozen BK121.out 2
                have hfz38_3 := blk_frozen BK121.out 3
                have hfz38_4 := blk_frozen BK121.out 4
                go_wp2_with (first | ((with_reducible refine gate_callee (f := 58) rfl ?_); refine goesL_ (some 65) rfl rfl Try.func58 (by kernel_rfl) rfl #[.slice (some ad120) l0.length c0, .int .i64 ((rd_T38 l0 a1).f3), .int .i64 0] rfl (by (try simp only [List.map_toArray, List.map_cons, List.map_nil]); first | done | rfl | (simp only [List.length_drop, List.length_take]; rfl)) ?_; (with_reducible refine (tamisref23_Marked.calls kj5 _ _ l0 ((rd_T38 l0 a1).f3) 0 t123 _ ?side1 ?side2 A35.out).mono ?_); (case side1 => repeat (first | exact (Kd.V_reads' HO_0.out).2.2 | (with_reducible refine Kd.C_alloc ?_ _) | (with_reducible refine Kd.C_drewN ?_ _) | (with_reducible refine Kd.C_drew ?_))); (case side2 => exact (Kd.V_reads' HO_0.out).2.1); rintro e w' ⟨rfl, ⟨nd, rfl⟩⟩; refine ⟨_, rfl, ?_⟩))
                go_meet
                case rel => exact ⟨_, H', ⟨by have := HJ5.out; first | omega | exact Nat.le_refl _⟩, ⟨by (with_reducible repeat (first | apply Kd.V_alloc | apply Kd.V_drewN | apply Kd.V_drew)); exact HO_0.out⟩, ⟨by (with_reducible repeat (first | refine blk_drewN ?_ _ | refine blk_drew ?_ | refine blk_alloc ?_ _)); exact BK121.out⟩, ⟨by repeat (first | (with_reducible first | exact HB.out | apply below_alloc | apply pw_below_drewN | apply below_drew1 | refine below_set ?_ GE121.out) | exact HB.out)⟩⟩
            · rw [if_neg c34] at H
              have c34b0 : (((rd_T38 l0 a1).f0) == 4) = false := beq_eq_false_iff_ne.mpr c34
              have c34b1 : (((rd_T38 l0 a1).f0) != 4) = true := bne_iff_ne.mpr c34
              (first | rw [c34b0] | (simp only [i64_w, i32_w]; rw [c34b0]) | skip)
              have H' := Aside0.mk H
              clear H
              go_wp2
              go_meet
              case rel => exact ⟨_, H', ⟨by have := HJ5.out; first | omega | exact Nat.le_refl _⟩, ⟨by (with_reducible repeat (first | apply Kd.V_alloc | apply Kd.V_drewN | apply Kd.V_drew)); exact HO_0.out⟩, ⟨by (with_reducible repeat (first | refine blk_drewN ?_ _ | refine blk_drew ?_ | refine blk_alloc ?_ _)); exact BK121.out⟩, ⟨by repeat (first | (with_reducible first | exact HB.out | apply below_alloc | apply pw_below_drewN | apply below_drew1 | refine below_set ?_ GE121.out) | exact HB.out)⟩⟩
          case rest =>
            clear HC32
            try clear c1
            try clear p1
            try clear q1
            try clear hx1
            try clear c2
            try clear p2
            try clear c3
            try clear c3b0
            try clear c4
            try clear c4b0
            try clear c5
            try clear c7
            try clear c11
            try clear c11b0
            try clear c11b1
            try clear c12
            try clear c12b0
            try clear c12b1
            try clear p12
            try clear q12
            try clear hx12
            try clear c13
            try clear c13b0
            try clear c13b1
            try clear c14
            try clear c14b0
            try clear c14b1
            try clear c15
            try clear c15b0
            try clear c15b1
            try clear c16
            try clear c16b0
            try clear c16b1
            try clear c21
            try clear c21b0
            try clear c21b1
            try clear c22
            try clear c23
            try clear c23b0
            try clear c23b1
            try clear c24
            try clear c24b0
            try clear c24b1
            try clear c25
            try clear c25b0
            try clear c25b1
            try clear c30
            try clear c30b0
            try clear c30b1
            try clear c31
            try clear c31b0
            try clear c31b1
            try clear c34
            try clear c34b0
            try clear c34b1
            try clear c36
            try clear c36b0
            try clear hcz10_0
            try clear hcz10_1
            try clear hcz10_2
            try clear hcz10_3
            try clear hcz10_4
            try clear hcz17_0
            try clear hcz17_1
            try clear hcz17_2
            try clear hcz17_3
            try clear hcz17_4
            try clear hcz18_0
            try clear hcz18_1
            try clear hcz18_2
            try clear hcz18_3
            try clear hcz18_4
            try clear hcz19_0
            try clear hcz19_1
            try clear hcz19_2
            try clear hcz19_3
            try clear hcz19_4
            try clear hcz26_0
            try clear hcz26_1
            try clear hcz26_2
            try clear hcz26_3
            try clear hcz26_4
            try clear hcz27_0
            try clear hcz27_1
            try clear hcz27_2
            try clear hcz27_3
            try clear hcz27_4
            try clear hcz28_0
            try clear hcz28_1
            try clear hcz28_2
            try clear hcz28_3
            try clear hcz28_4
            try clear hcz29_0
            try clear hcz29_1
            try clear hcz29_2
            try clear hcz29_3
            try clear hcz29_4
            try clear hcz33_0
            try clear hcz33_1
            try clear hcz33_2
            try clear hcz33_3
            try clear hcz33_4
            try clear hcz37_0
            try clear hcz37_1
            try clear hcz37_2
            try clear hcz37_3
            try clear hcz37_4
            try clear hcz38_0
            try clear hcz38_1
            try clear hcz38_2
            try clear hcz38_3
            try clear hcz38_4
            try clear hcz8_0
            try clear hcz8_1
            try clear hcz8_2
            try clear hcz8_3
            try clear hcz8_4
            try clear hfz10_0
            try clear hfz10_1
            try clear hfz10_2
            try clear hfz10_3
            try clear hfz10_4
            try clear hfz17_0
            try clear hfz17_1
            try clear hfz17_2
            try clear hfz17_3
            try clear hfz17_4
            try clear hfz18_0
            try clear hfz18_1
            try clear hfz18_2
            try clear hfz18_3
            try clear hfz18_4
            try clear hfz19_0
            try clear hfz19_1
            try clear hfz19_2
            try clear hfz19_3
            try clear hfz19_4
            try clear hfz26_0
            try clear hfz26_1
            try clear hfz26_2
            try clear hfz26_3
            try clear hfz26_4
            try clear hfz27_0
            try clear hfz27_1
            try clear hfz27_2
            try clear hfz27_3
            try clear hfz27_4
            try clear hfz28_0
            try clear hfz28_1
            try clear hfz28_2
            try clear hfz28_3
            try clear hfz28_4
            try clear hfz29_0
            try clear hfz29_1
            try clear hfz29_2
            try clear hfz29_3
            try clear hfz29_4
            try clear hfz33_0
            try clear hfz33_1
            try clear hfz33_2
            try clear hfz33_3
            try clear hfz33_4
            try clear hfz37_0
            try clear hfz37_1
            try clear hfz37_2
            try clear hfz37_3
            try clear hfz37_4
            try clear hfz38_0
            try clear hfz38_1
            try clear hfz38_2
            try clear hfz38_3
            try clear hfz38_4
            try clear hfz8_0
            try clear hfz8_1
            try clear hfz8_2
            try clear hfz8_3
            try clear hfz8_4
            try clear hx120_0
            try clear hx120_1
            try clear hx120_2
            try clear hx120_3
            try clear hx120_4
            try clear p1
            try clear p12
            try clear p120
            try clear p2
            try clear q1
            try clear q12
            try clear q120
            obtain ⟨kq, HA, HJ31, HO_0, BK121, HB⟩ := hcut
            cases kq with
            | zero => exact absurd HA.out (by simp [tamisref23_local.j2])
            | succ kj31 =>
              have H := HA.out
              clear HA
              simp only [tamisref23_local.j2] at H
              by_cases c39 : ((rd_T38 l0 a1).f0) = 2
              · rw [if_pos c39] at H
                have c39b0 : (((rd_T38 l0 a1).f0) == 2) = true := beq_iff_eq.mpr c39
                have c39b1 : (((rd_T38 l0 a1).f0) != 2) = false := bne_eq_false_iff_eq.mpr c39
                clear c39
                replace H := Option.bind_eq_some_iff.mp H
                obtain ⟨t124, A400, H⟩ := H
                replace H : (if t124 < 0 then (some 15) else (if ((rd_T38 l0 a1).f0) = 3 then ((tamisref23_Marked.f kj31 l0 ((rd_T38 l0 a1).f4) a1).bind fun t125 => (if t125 < 0 then (some 15) else (some 0))) else (some 0))) = some r := H
                have A40 := Aside0.mk A400
                clear A400
                by_cases c41 : t124 < 0
                · rw [if_pos c41] at H
                  have c41b0 : decide (t124 < 0) = true := decide_eq_true c41
                  clear c41
                  obtain rfl := Option.some.inj H
                  have hcz42_0 : wc.cell? ⟨gb121, 0, none⟩ = some (.int .i64 ((rd_T38 l0 a1).f0)) := (blk_cell BK121.out 0).trans rfl
                  have hcz42_1 : wc.cell? ⟨gb121, 1, none⟩ = some (.int .u16 ((rd_T38 l0 a1).f1)) := (blk_cell BK121.out 1).trans rfl
                  have hcz42_2 : wc.cell? ⟨gb121, 2, none⟩ = some (.int .u32 ((rd_T38 l0 a1).f2)) := (blk_cell BK121.out 2).trans rfl
                  have hcz42_3 : wc.cell? ⟨gb121, 3, none⟩ = some (.int .i64 ((rd_T38 l0 a1).f3)) := (blk_cell BK121.out 3).trans rfl
                  have hcz42_4 : wc.cell? ⟨gb121, 4, none⟩ = some (.int .i64 ((rd_T38 l0 a1).f4)) := (blk_cell BK121.out 4).trans rfl
                  have hfz42_0 := blk_frozen BK121.out 0
                  have hfz42_1 := blk_frozen BK121.out 1
                  have hfz42_2 := blk_frozen BK121.out 2
                  have hfz42_3 := blk_frozen BK121.out 3
                  have hfz42_4 := blk_frozen BK121.out 4
                  go_wp2_with (first | (go_at_call 58; (with_reducible refine (tamisref23_Marked.calls kj31 _ _ l0 ((rd_T38 l0 a1).f3) a1 t124 _ ?side1 ?side2 A40.out).mono ?_); (case side1 => repeat (first | exact (Kd.V_reads' HO_0.out).2.2 | (with_reducible refine Kd.C_alloc ?_ _) | (with_reducible refine Kd.C_drewN ?_ _) | (with_reducible refine Kd.C_drew ?_))); (case side2 => exact (Kd.V_reads' HO_0.out).2.1); rintro e w' ⟨rfl, ⟨nd, rfl⟩⟩))
                  go_ret
                  exact ⟨by first | rfl | (simp [errW_none, errW_some] <;> rfl) | (simp [*, errW_none, errW_some] <;> rfl), by repeat (first | (with_reducible first | exact HB.out | apply below_alloc | apply pw_below_drewN | apply below_drew1 | refine below_set ?_ GE121.out) | exact HB.out)⟩
                · rw [if_neg c41] at H
                  have c41b0 : decide (t124 < 0) = false := decide_eq_false c41
                  clear c41
                  by_cases c43 : ((rd_T38 l0 a1).f0) = 3
                  · rw [if_pos c43] at H
                    have c43b0 : (((rd_T38 l0 a1).f0) == 3) = true := beq_iff_eq.mpr c43
                    have c43b1 : (((rd_T38 l0 a1).f0) != 3) = false := bne_eq_false_iff_eq.mpr c43
                    clear c43
                    replace H := Option.bind_eq_some_iff.mp H
                    obtain ⟨t125, A440, H⟩ := H
                    replace H : (if t125 < 0 then (some 15) else (some 0)) = some r := H
                    have A44 := Aside0.mk A440
                    clear A440
                    by_cases c45 : t125 < 0
                    · rw [if_pos c45] at H
                      have c45b0 : decide (t125 < 0) = true := decide_eq_true c45
                      clear c45
                      obtain rfl := Option.some.inj H
                      have hcz46_0 : wc.cell? ⟨gb121, 0, none⟩ = some (.int .i64 ((rd_T38 l0 a1).f0)) := (blk_cell BK121.out 0).trans rfl
                      have hcz46_1 : wc.cell? ⟨gb121, 1, none⟩ = some (.int .u16 ((rd_T38 l0 a1).f1)) := (blk_cell BK121.out 1).trans rfl
                      have hcz46_2 : wc.cell? ⟨gb121, 2, none⟩ = some (.int .u32 ((rd_T38 l0 a1).f2)) := (blk_cell BK121.out 2).trans rfl
                      have hcz46_3 : wc.cell? ⟨gb121, 3, none⟩ = some (.int .i64 ((rd_T38 l0 a1).f3)) := (blk_cell BK121.out 3).trans rfl
                      have hcz46_4 : wc.cell? ⟨gb121, 4, none⟩ = some (.int .i64 ((rd_T38 l0 a1).f4)) := (blk_cell BK121.out 4).trans rfl
                      have hfz46_0 := blk_frozen BK121.out 0
                      have hfz46_1 := blk_frozen BK121.out 1
                      have hfz46_2 := blk_frozen BK121.out 2
                      have hfz46_3 := blk_frozen BK121.out 3
                      have hfz46_4 := blk_frozen BK121.out 4
                      go_wp2_with (first | (go_at_call 58; (with_reducible refine (tamisref23_Marked.calls kj31 _ _ l0 ((rd_T38 l0 a1).f3) a1 t124 _ ?side1 ?side2 A40.out).mono ?_); (case side1 => repeat (first | exact (Kd.V_reads' HO_0.out).2.2 | (with_reducible refine Kd.C_alloc ?_ _) | (with_reducible refine Kd.C_drewN ?_ _) | (with_reducible refine Kd.C_drew ?_))); (case side2 => exact (Kd.V_reads' HO_0.out).2.1); rintro e w' ⟨rfl, ⟨nd, rfl⟩⟩) | (go_at_call 58; (with_reducible refine (tamisref23_Marked.calls kj31 _ _ l0 ((rd_T38 l0 a1).f4) a1 t125 _ ?side1 ?side2 A44.out).mono ?_); (case side1 => repeat (first | exact (Kd.V_reads' HO_0.out).2.2 | (with_reducible refine Kd.C_alloc ?_ _) | (with_reducible refine Kd.C_drewN ?_ _) | (with_reducible refine Kd.C_drew ?_))); (case side2 => exact (Kd.V_reads' HO_0.out).2.1); rintro e w' ⟨rfl, ⟨nd, rfl⟩⟩))
                      go_ret
                      exact ⟨by first | rfl | (simp [errW_none, errW_some] <;> rfl) | (simp [*, errW_none, errW_some] <;> rfl), by repeat (first | (with_reducible first | exact HB.out | apply below_alloc | apply pw_below_drewN | apply below_drew1 | refine below_set ?_ GE121.out) | exact HB.out)⟩
                    · rw [if_neg c45] at H
                      have c45b0 : decide (t125 < 0) = false := decide_eq_false c45
                      clear c45
                      obtain rfl := Option.some.inj H
                      have hcz47_0 : wc.cell? ⟨gb121, 0, none⟩ = some (.int .i64 ((rd_T38 l0 a1).f0)) := (blk_cell BK121.out 0).trans rfl
                      have hcz47_1 : wc.cell? ⟨gb121, 1, none⟩ = some (.int .u16 ((rd_T38 l0 a1).f1)) := (blk_cell BK121.out 1).trans rfl
                      have hcz47_2 : wc.cell? ⟨gb121, 2, none⟩ = some (.int .u32 ((rd_T38 l0 a1).f2)) := (blk_cell BK121.out 2).trans rfl
                      have hcz47_3 : wc.cell? ⟨gb121, 3, none⟩ = some (.int .i64 ((rd_T38 l0 a1).f3)) := (blk_cell BK121.out 3).trans rfl
                      have hcz47_4 : wc.cell? ⟨gb121, 4, none⟩ = some (.int .i64 ((rd_T38 l0 a1).f4)) := (blk_cell BK121.out 4).trans rfl
                      have hfz47_0 := blk_frozen BK121.out 0
                      have hfz47_1 := blk_frozen BK121.out 1
                      have hfz47_2 := blk_frozen BK121.out 2
                      have hfz47_3 := blk_frozen BK121.out 3
                      have hfz47_4 := blk_frozen BK121.out 4
                      go_wp2_with (first | (go_at_call 58; (with_reducible refine (tamisref23_Marked.calls kj31 _ _ l0 ((rd_T38 l0 a1).f3) a1 t124 _ ?side1 ?side2 A40.out).mono ?_); (case side1 => repeat (first | exact (Kd.V_reads' HO_0.out).2.2 | (with_reducible refine Kd.C_alloc ?_ _) | (with_reducible refine Kd.C_drewN ?_ _) | (with_reducible refine Kd.C_drew ?_))); (case side2 => exact (Kd.V_reads' HO_0.out).2.1); rintro e w' ⟨rfl, ⟨nd, rfl⟩⟩) | (go_at_call 58; (with_reducible refine (tamisref23_Marked.calls kj31 _ _ l0 ((rd_T38 l0 a1).f4) a1 t125 _ ?side1 ?side2 A44.out).mono ?_); (case side1 => repeat (first | exact (Kd.V_reads' HO_0.out).2.2 | (with_reducible refine Kd.C_alloc ?_ _) | (with_reducible refine Kd.C_drewN ?_ _) | (with_reducible refine Kd.C_drew ?_))); (case side2 => exact (Kd.V_reads' HO_0.out).2.1); rintro e w' ⟨rfl, ⟨nd, rfl⟩⟩))
                      go_ret
                      exact ⟨by first | rfl | (simp [errW_none, errW_some] <;> rfl) | (simp [*, errW_none, errW_some] <;> rfl), by repeat (first | (with_reducible first | exact HB.out | apply below_alloc | apply pw_below_drewN | apply below_drew1 | refine below_set ?_ GE121.out) | exact HB.out)⟩
                  · rw [if_neg c43] at H
                    have c43b0 : (((rd_T38 l0 a1).f0) == 3) = false := beq_eq_false_iff_ne.mpr c43
                    have c43b1 : (((rd_T38 l0 a1).f0) != 3) = true := bne_iff_ne.mpr c43
                    obtain rfl := Option.some.inj H
                    have hcz48_0 : wc.cell? ⟨gb121, 0, none⟩ = some (.int .i64 ((rd_T38 l0 a1).f0)) := (blk_cell BK121.out 0).trans rfl
                    have hcz48_1 : wc.cell? ⟨gb121, 1, none⟩ = some (.int .u16 ((rd_T38 l0 a1).f1)) := (blk_cell BK121.out 1).trans rfl
                    have hcz48_2 : wc.cell? ⟨gb121, 2, none⟩ = some (.int .u32 ((rd_T38 l0 a1).f2)) := (blk_cell BK121.out 2).trans rfl
                    have hcz48_3 : wc.cell? ⟨gb121, 3, none⟩ = some (.int .i64 ((rd_T38 l0 a1).f3)) := (blk_cell BK121.out 3).trans rfl
                    have hcz48_4 : wc.cell? ⟨gb121, 4, none⟩ = some (.int .i64 ((rd_T38 l0 a1).f4)) := (blk_cell BK121.out 4).trans rfl
                    have hfz48_0 := blk_frozen BK121.out 0
                    have hfz48_1 := blk_frozen BK121.out 1
                    have hfz48_2 := blk_frozen BK121.out 2
                    have hfz48_3 := blk_frozen BK121.out 3
                    have hfz48_4 := blk_frozen BK121.out 4
                    go_wp2_with (first | (go_at_call 58; (with_reducible refine (tamisref23_Marked.calls kj31 _ _ l0 ((rd_T38 l0 a1).f3) a1 t124 _ ?side1 ?side2 A40.out).mono ?_); (case side1 => repeat (first | exact (Kd.V_reads' HO_0.out).2.2 | (with_reducible refine Kd.C_alloc ?_ _) | (with_reducible refine Kd.C_drewN ?_ _) | (with_reducible refine Kd.C_drew ?_))); (case side2 => exact (Kd.V_reads' HO_0.out).2.1); rintro e w' ⟨rfl, ⟨nd, rfl⟩⟩))
                    go_ret
                    exact ⟨by first | rfl | (simp [errW_none, errW_some] <;> rfl) | (simp [*, errW_none, errW_some] <;> rfl), by repeat (first | (with_reducible first | exact HB.out | apply below_alloc | apply pw_below_drewN | apply below_drew1 | refine below_set ?_ GE121.out) | exact HB.out)⟩
              · rw [if_neg c39] at H
                have c39b0 : (((rd_T38 l0 a1).f0) == 2) = false := beq_eq_false_iff_ne.mpr c39
                have c39b1 : (((rd_T38 l0 a1).f0) != 2) = true := bne_iff_ne.mpr c39
                by_cases c49 : ((rd_T38 l0 a1).f0) = 3
                · rw [if_pos c49] at H
                  have c49b0 : (((rd_T38 l0 a1).f0) == 3) = true := beq_iff_eq.mpr c49
                  have c49b1 : (((rd_T38 l0 a1).f0) != 3) = false := bne_eq_false_iff_eq.mpr c49
                  clear c49
                  replace H := Option.bind_eq_some_iff.mp H
                  obtain ⟨t126, A500, H⟩ := H
                  replace H : (if t126 < 0 then (some 15) else ((tamisref23_Marked.f kj31 l0 ((rd_T38 l0 a1).f4) a1).bind fun t127 => (if t127 < 0 then (some 15) else (some 0)))) = some r := H
                  have A50 := Aside0.mk A500
                  clear A500
                  by_cases c51 : t126 < 0
                  · rw [if_pos c51] at H
                    have c51b0 : decide (t126 < 0) = true := decide_eq_true c51
                    clear c51
                    obtain rfl := Option.some.inj H
                    have hcz52_0 : wc.cell? ⟨gb121, 0, none⟩ = some (.int .i64 ((rd_T38 l0 a1).f0)) := (blk_cell BK121.out 0).trans rfl
                    have hcz52_1 : wc.cell? ⟨gb121, 1, none⟩ = some (.int .u16 ((rd_T38 l0 a1).f1)) := (blk_cell BK121.out 1).trans rfl
                    have hcz52_2 : wc.cell? ⟨gb121, 2, none⟩ = some (.int .u32 ((rd_T38 l0 a1).f2)) := (blk_cell BK121.out 2).trans rfl
                    have hcz52_3 : wc.cell? ⟨gb121, 3, none⟩ = some (.int .i64 ((rd_T38 l0 a1).f3)) := (blk_cell BK121.out 3).trans rfl
                    have hcz52_4 : wc.cell? ⟨gb121, 4, none⟩ = some (.int .i64 ((rd_T38 l0 a1).f4)) := (blk_cell BK121.out 4).trans rfl
                    have hfz52_0 := blk_frozen BK121.out 0
                    have hfz52_1 := blk_frozen BK121.out 1
                    have hfz52_2 := blk_frozen BK121.out 2
                    have hfz52_3 := blk_frozen BK121.out 3
                    have hfz52_4 := blk_frozen BK121.out 4
                    go_wp2_with (first | (go_at_call 58; (with_reducible refine (tamisref23_Marked.calls kj31 _ _ l0 ((rd_T38 l0 a1).f3) a1 t126 _ ?side1 ?side2 A50.out).mono ?_); (case side1 => repeat (first | exact (Kd.V_reads' HO_0.out).2.2 | (with_reducible refine Kd.C_alloc ?_ _) | (with_reducible refine Kd.C_drewN ?_ _) | (with_reducible refine Kd.C_drew ?_))); (case side2 => exact (Kd.V_reads' HO_0.out).2.1); rintro e w' ⟨rfl, ⟨nd, rfl⟩⟩))
                    go_ret
                    exact ⟨by first | rfl | (simp [errW_none, errW_some] <;> rfl) | (simp [*, errW_none, errW_some] <;> rfl), by repeat (first | (with_reducible first | exact HB.out | apply below_alloc | apply pw_below_drewN | apply below_drew1 | refine below_set ?_ GE121.out) | exact HB.out)⟩
                  · rw [if_neg c51] at H
                    have c51b0 : decide (t126 < 0) = false := decide_eq_false c51
                    clear c51
                    replace H := Option.bind_eq_some_iff.mp H
                    obtain ⟨t127, A530, H⟩ := H
                    replace H : (if t127 < 0 then (some 15) else (some 0)) = some r := H
                    have A53 := Aside0.mk A530
                    clear A530
                    by_cases c54 : t127 < 0
                    · rw [if_pos c54] at H
                      have c54b0 : decide (t127 < 0) = true := decide_eq_true c54
                      clear c54
                      obtain rfl := Option.some.inj H
                      have hcz55_0 : wc.cell? ⟨gb121, 0, none⟩ = some (.int .i64 ((rd_T38 l0 a1).f0)) := (blk_cell BK121.out 0).trans rfl
                      have hcz55_1 : wc.cell? ⟨gb121, 1, none⟩ = some (.int .u16 ((rd_T38 l0 a1).f1)) := (blk_cell BK121.out 1).trans rfl
                      have hcz55_2 : wc.cell? ⟨gb121, 2, none⟩ = some (.int .u32 ((rd_T38 l0 a1).f2)) := (blk_cell BK121.out 2).trans rfl
                      have hcz55_3 : wc.cell? ⟨gb121, 3, none⟩ = some (.int .i64 ((rd_T38 l0 a1).f3)) := (blk_cell BK121.out 3).trans rfl
                      have hcz55_4 : wc.cell? ⟨gb121, 4, none⟩ = some (.int .i64 ((rd_T38 l0 a1).f4)) := (blk_cell BK121.out 4).trans rfl
                      have hfz55_0 := blk_frozen BK121.out 0
                      have hfz55_1 := blk_frozen BK121.out 1
                      have hfz55_2 := blk_frozen BK121.out 2
                      have hfz55_3 := blk_frozen BK121.out 3
                      have hfz55_4 := blk_frozen BK121.out 4
                      go_wp2_with (first | (go_at_call 58; (with_reducible refine (tamisref23_Marked.calls kj31 _ _ l0 ((rd_T38 l0 a1).f3) a1 t126 _ ?side1 ?side2 A50.out).mono ?_); (case side1 => repeat (first | exact (Kd.V_reads' HO_0.out).2.2 | (with_reducible refine Kd.C_alloc ?_ _) | (with_reducible refine Kd.C_drewN ?_ _) | (with_reducible refine Kd.C_drew ?_))); (case side2 => exact (Kd.V_reads' HO_0.out).2.1); rintro e w' ⟨rfl, ⟨nd, rfl⟩⟩) | (go_at_call 58; (with_reducible refine (tamisref23_Marked.calls kj31 _ _ l0 ((rd_T38 l0 a1).f4) a1 t127 _ ?side1 ?side2 A53.out).mono ?_); (case side1 => repeat (first | exact (Kd.V_reads' HO_0.out).2.2 | (with_reducible refine Kd.C_alloc ?_ _) | (with_reducible refine Kd.C_drewN ?_ _) | (with_reducible refine Kd.C_drew ?_))); (case side2 => exact (Kd.V_reads' HO_0.out).2.1); rintro e w' ⟨rfl, ⟨nd, rfl⟩⟩))
                      go_ret
                      exact ⟨by first | rfl | (simp [errW_none, errW_some] <;> rfl) | (simp [*, errW_none, errW_some] <;> rfl), by repeat (first | (with_reducible first | exact HB.out | apply below_alloc | apply pw_below_drewN | apply below_drew1 | refine below_set ?_ GE121.out) | exact HB.out)⟩
                    · rw [if_neg c54] at H
                      have c54b0 : decide (t127 < 0) = false := decide_eq_false c54
                      clear c54
                      obtain rfl := Option.some.inj H
                      have hcz56_0 : wc.cell? ⟨gb121, 0, none⟩ = some (.int .i64 ((rd_T38 l0 a1).f0)) := (blk_cell BK121.out 0).trans rfl
                      have hcz56_1 : wc.cell? ⟨gb121, 1, none⟩ = some (.int .u16 ((rd_T38 l0 a1).f1)) := (blk_cell BK121.out 1).trans rfl
                      have hcz56_2 : wc.cell? ⟨gb121, 2, none⟩ = some (.int .u32 ((rd_T38 l0 a1).f2)) := (blk_cell BK121.out 2).trans rfl
                      have hcz56_3 : wc.cell? ⟨gb121, 3, none⟩ = some (.int .i64 ((rd_T38 l0 a1).f3)) := (blk_cell BK121.out 3).trans rfl
                      have hcz56_4 : wc.cell? ⟨gb121, 4, none⟩ = some (.int .i64 ((rd_T38 l0 a1).f4)) := (blk_cell BK121.out 4).trans rfl
                      have hfz56_0 := blk_frozen BK121.out 0
                      have hfz56_1 := blk_frozen BK121.out 1
                      have hfz56_2 := blk_frozen BK121.out 2
                      have hfz56_3 := blk_frozen BK121.out 3
                      have hfz56_4 := blk_frozen BK121.out 4
                      go_wp2_with (first | (go_at_call 58; (with_reducible refine (tamisref23_Marked.calls kj31 _ _ l0 ((rd_T38 l0 a1).f3) a1 t126 _ ?side1 ?side2 A50.out).mono ?_); (case side1 => repeat (first | exact (Kd.V_reads' HO_0.out).2.2 | (with_reducible refine Kd.C_alloc ?_ _) | (with_reducible refine Kd.C_drewN ?_ _) | (with_reducible refine Kd.C_drew ?_))); (case side2 => exact (Kd.V_reads' HO_0.out).2.1); rintro e w' ⟨rfl, ⟨nd, rfl⟩⟩) | (go_at_call 58; (with_reducible refine (tamisref23_Marked.calls kj31 _ _ l0 ((rd_T38 l0 a1).f4) a1 t127 _ ?side1 ?side2 A53.out).mono ?_); (case side1 => repeat (first | exact (Kd.V_reads' HO_0.out).2.2 | (with_reducible refine Kd.C_alloc ?_ _) | (with_reducible refine Kd.C_drewN ?_ _) | (with_reducible refine Kd.C_drew ?_))); (case side2 => exact (Kd.V_reads' HO_0.out).2.1); rintro e w' ⟨rfl, ⟨nd, rfl⟩⟩))
                      go_ret
                      exact ⟨by first | rfl | (simp [errW_none, errW_some] <;> rfl) | (simp [*, errW_none, errW_some] <;> rfl), by repeat (first | (with_reducible first | exact HB.out | apply below_alloc | apply pw_below_drewN | apply below_drew1 | refine below_set ?_ GE121.out) | exact HB.out)⟩
                · rw [if_neg c49] at H
                  have c49b0 : (((rd_T38 l0 a1).f0) == 3) = false := beq_eq_false_iff_ne.mpr c49
                  have c49b1 : (((rd_T38 l0 a1).f0) != 3) = true := bne_iff_ne.mpr c49
                  obtain rfl := Option.some.inj H
                  have hcz57_0 : wc.cell? ⟨gb121, 0, none⟩ = some (.int .i64 ((rd_T38 l0 a1).f0)) := (blk_cell BK121.out 0).trans rfl
                  have hcz57_1 : wc.cell? ⟨gb121, 1, none⟩ = some (.int .u16 ((rd_T38 l0 a1).f1)) := (blk_cell BK121.out 1).trans rfl
                  have hcz57_2 : wc.cell? ⟨gb121, 2, none⟩ = some (.int .u32 ((rd_T38 l0 a1).f2)) := (blk_cell BK121.out 2).trans rfl
                  have hcz57_3 : wc.cell? ⟨gb121, 3, none⟩ = some (.int .i64 ((rd_T38 l0 a1).f3)) := (blk_cell BK121.out 3).trans rfl
                  have hcz57_4 : wc.cell? ⟨gb121, 4, none⟩ = some (.int .i64 ((rd_T38 l0 a1).f4)) := (blk_cell BK121.out 4).trans rfl
                  have hfz57_0 := blk_frozen BK121.out 0
                  have hfz57_1 := blk_frozen BK121.out 1
                  have hfz57_2 := blk_frozen BK121.out 2
                  have hfz57_3 := blk_frozen BK121.out 3
                  have hfz57_4 := blk_frozen BK121.out 4
                  go_wp2
                  go_ret
                  exact ⟨by first | rfl | (simp [errW_none, errW_some] <;> rfl) | (simp [*, errW_none, errW_some] <;> rfl), by repeat (first | (with_reducible first | exact HB.out | apply below_alloc | apply pw_below_drewN | apply below_drew1 | refine below_set ?_ GE121.out) | exact HB.out)⟩
    · rw [if_neg c4] at H
      exact absurd H (by simp)
  · rw [if_neg c3] at H
    exact absurd H (by simp)

end Go.Proofs.Ytmjpibeiglicdaa.E
