/- Functions of the program as plain Lean functions, and their contracts; written by a program out of the translation. -/
import Derived.Test.YtmjpibeiglicdaaE0
namespace Go.Proofs.Ytmjpibeiglicdaa.E
open Go.RowKit Go.Proofs.YtmjpibeiglicdaaU.PrintWords Go.Proofs.YtmjpibeiglicdaaU.PrintLast Go.Proofs.YtmjpibeiglicdaaU.PrintMore
attribute [local go_sem] max2_int min2_int max_two min_two max_three min_three max_four min_four   -- for this text's walks alone
set_option linter.unusedVariables false
set_option linter.unusedSimpArgs false

/-! ### tamislaw23_Own: function 33 -/
def tamislaw23_Own.l0 : Nat → List (S38) → List (S40) → Int → Int → Option ((List (S38)))
  | 0, _, _, _, _ => none
  | k + 1, x3, x6, x7, x8 => if x8 < x7 then (if 0 ≤ x8 then (if x8 < (x6.length : Int) then (if x3.length < 4398046511104 then (tamislaw23_Own.l0 k (x3 ++ [(⟨(rd_T40 x6 x8).f0, (rd_T40 x6 x8).f1, (rd_T40 x6 x8).f2, (rd_T40 x6 x8).f3, (rd_T40 x6 x8).f4⟩ : S38)]) x6 x7 (wrap64 (x8 + 1))) else (none)) else (none)) else (none)) else (some x3)
def tamislaw23_Own.f (k : Nat) (l0 : List (S40)) : Option ((List (S38))) := tamislaw23_Own.l0 k ([] : List (S38)) l0 (l0.length : Int) 0
theorem tamislaw23_Own.mono_l : ∀ k, (∀ y0 y1 y2 y3, LeO (tamislaw23_Own.l0 k y0 y1 y2 y3) (tamislaw23_Own.l0 (k + 1) y0 y1 y2 y3))
  | 0 => fun _ _ _ _ r h => by simp [tamislaw23_Own.l0] at h
  | k + 1 => by
    have ih0 := tamislaw23_Own.mono_l k
    · intro y0 y1 y2 y3
      unfold tamislaw23_Own.l0
      repeat' first
      | (with_reducible exact ih0 _ _ _ _)
      | (with_reducible exact LeO.refl _)
      | (with_reducible exact LeO.none _)
      | (with_reducible refine LeO.ite ?_ ?_)
      | (with_reducible refine LeO.bind ?_ (fun _ => ?_))
      | exact ih0 _ _ _ _
      | exact LeO.none _
      | refine LeO.ite ?_ ?_
      | refine LeO.bind ?_ (fun _ => ?_)
theorem tamislaw23_Own.mono : ∀ a0 k, LeO (tamislaw23_Own.f k a0) (tamislaw23_Own.f (k + 1) a0) := by
  intro a0 k
  have ih0 := tamislaw23_Own.mono_l k
  unfold tamislaw23_Own.f
  repeat' first
      | (with_reducible exact ih0 _ _ _ _)
      | (with_reducible exact LeO.refl _)
      | (with_reducible exact LeO.none _)
      | (with_reducible refine LeO.ite ?_ ?_)
      | (with_reducible refine LeO.bind ?_ (fun _ => ?_))
      | exact ih0 _ _ _ _
      | exact LeO.none _
      | refine LeO.ite ?_ ?_
      | refine LeO.bind ?_ (fun _ => ?_)
set_option maxHeartbeats 8000000 in
set_option maxRecDepth 100000 in
theorem tamislaw23_Own.calls (k : Nat) (A0 : Option Addr) (c0 : Nat) (l0 : List (S40)) (r : List (S38)) (w : World) (hr0 : Kd.C k40 w A0 l0.length l0) (hc0 : l0.length ≤ c0) (h : tamislaw23_Own.f k l0 = some r) :
    Calls Try.prog 33 #[.slice A0 l0.length c0] w fun e w' => ∃ v0_ : Value, e = .returned (v0_) ∧ Kd.R k38 38 w' w.heap.size (fun _ => True) v0_ r ∧ Below w.heap.size w w' := by
  have hu40 := Try.underlying40
  have hu38 := Try.underlying38
  have HR0 := Aside0.mk hr0
  have HC0 := Aside0.mk hc0
  clear hr0 hc0
  have HB := Aside0.mk (Below.refl w.heap.size w)
  have H : (tamislaw23_Own.l0 k ([] : List (S38)) l0 (l0.length : Int) 0) = some r := h
  clear h
  have H' := Aside0.mk H
  clear H
  go_enter Try.func33, Try.ntmps33
  go_wp2
  go_loopg [3, 8] k (fun kq v3 v8 w' => ∃ (x3_1 : List (S38)) (x8_1 : Int), v8 = .int .i64 x8_1 ∧ Aside0 (tamislaw23_Own.l0 kq x3_1 l0 (l0.length : Int) x8_1 = some r) ∧ Aside0 (kq ≤ k) ∧ Aside0 (Kd.R k38 38 w' w.heap.size (fun _ => True) v3 x3_1) ∧ Aside0 (Below w.heap.size w w'))
  case atStart => exact ⟨(([] : List (S38))), (0), (by first | rfl | (simp; done) | (simp [*]; done)), H', ⟨Nat.le_refl _⟩, ⟨by first | exact Kd.R_nil _ _ _ _ _ | exact Kd.N_nil _ _ _ _ _ | exact Kd.V_nil _ _ _ _ _ | exact Kd.Q_nil _ _ _ _ _ | exact Kd.S_nil _ _ _ _ _⟩, ⟨by repeat (first | (with_reducible first | exact HB.out | apply below_alloc | apply pw_below_drewN | apply below_drew1) | exact HB.out)⟩⟩
  case round =>
    clear H'
    obtain ⟨x3_1, x8_1, rfl, HA, HK1, HO_3, HB⟩ := hrel
    cases gk with
    | zero => exact absurd HA.out (by simp [tamislaw23_Own.l0])
    | succ k1 =>
      have H := HA.out
      clear HA
      simp only [tamislaw23_Own.l0] at H
      by_cases c2 : x8_1 < (l0.length : Int)
      · rw [if_pos c2] at H
        have c2b0 : decide (x8_1 < (l0.length : Int)) = true := decide_eq_true c2
        clear c2
        by_cases c3 : 0 ≤ x8_1
        · rw [if_pos c3] at H
          have c3b0 : decide (0 ≤ x8_1) = true := decide_eq_true c3
          clear c3
          by_cases c4 : x8_1 < (l0.length : Int)
          · rw [if_pos c4] at H
            have c4b0 : decide (x8_1 < (l0.length : Int)) = true := decide_eq_true c4
            clear c4
            by_cases c5 : x3_1.length < 4398046511104
            · rw [if_pos c5] at H
              have LMc5 := Aside0.mk c5
              clear c5
              obtain ⟨y103, hy103⟩ : ∃ y_ : List (S38), y_ = (x3_1 ++ [(⟨(rd_T40 l0 x8_1).f0, (rd_T40 l0 x8_1).f1, (rd_T40 l0 x8_1).f2, (rd_T40 l0 x8_1).f3, (rd_T40 l0 x8_1).f4⟩ : S38)]) := ⟨_, rfl⟩
              replace H : (tamislaw23_Own.l0 k1 y103 l0 (l0.length : Int) (wrap64 (x8_1 + 1))) = some r := by first | (rw [hy103]; with_reducible exact H) | (have H2_ := (Option.bind_some _ _).symm.trans H; rw [hy103]; with_reducible exact H2_) | (have H2_ := (Option.bind_some _ _).symm.trans H; with_reducible exact H2_) | with_reducible exact H | (rw [hy103]; exact H) | exact H
              have Ny103 := Aside0.mk hy103
              clear hy103
              have H' := Aside0.mk H
              clear H
              have p101 : 0 ≤ (x8_1 : Int) := of_decide_eq_true (by first | (with_reducible assumption) | assumption)
              have q101 : x8_1 < (l0.length : Int) := of_decide_eq_true (by first | (with_reducible assumption) | assumption)
              obtain ⟨ad101, e101, hx101_0, hx101_1, hx101_2, hx101_3, hx101_4⟩ := at_T40 HR0.out x8_1 p101 q101
              cases e101
              replace hx101_0 := (HB.out.cell (World.block_lt_of_cell? w _ hx101_0)).trans hx101_0
              replace hx101_1 := (HB.out.cell (World.block_lt_of_cell? w _ hx101_1)).trans hx101_1
              replace hx101_2 := (HB.out.cell (World.block_lt_of_cell? w _ hx101_2)).trans hx101_2
              replace hx101_3 := (HB.out.cell (World.block_lt_of_cell? w _ hx101_3)).trans hx101_3
              replace hx101_4 := (HB.out.cell (World.block_lt_of_cell? w _ hx101_4)).trans hx101_4
              replace p101 := eq_true p101
              replace q101 := eq_true q101
              go_wp2_with (first | ((with_reducible refine gate_dst (N := 5) rfl ?_); refine box_event ?hg (N := 5) ?hd (cs := #[.int .i64 0, .int .u16 0, .int .u32 0, .int .i64 0, .int .i64 0]) (t := 40) ?hr ?_; (case hd => rfl); (case hg => rfl); (case hr => first | (go_simp; done) | (go_simp; rfl)); intro gb102 hg w6 hbox hb; have n0_ := Aside0.mk (Kd.R_below (by (with_reducible repeat (first | apply Kd.R_alloc | apply Kd.R_drewN | apply Kd.R_drew)); exact HO_3.out) hb); have n1_ := Aside0.mk (below_step (by repeat (first | (with_reducible first | exact HB.out | apply below_alloc | apply pw_below_drewN | apply below_drew1) | exact HB.out)) hb); have n2_ := Aside0.mk (hbox); have n3_ := Aside0.mk ((by rw [hg]; exact (below_size (by repeat (first | (with_reducible first | exact HB.out | apply below_alloc | apply pw_below_drewN | apply below_drew1) | exact HB.out))) : w.heap.size ≤ gb102)); have n4_ := Aside0.mk ((by rw [hg]; exact (below_size (by repeat (first | (with_reducible first | exact HB.out | apply below_alloc | apply pw_below_drewN | apply below_drew1) | exact HB.out))) : w.heap.size ≤ gb102)); clear HO_3; clear HB; have HO_3 := n0_; have HB := n1_; have BK102 := n2_; have GW102 := n3_; have GE102 := n4_; clear n0_ n1_ n2_ n3_ n4_; clear hb hbox hg; have hcz7_0 : w6.cell? ⟨gb102, 0, none⟩ = some (.int .i64 0) := (blk_cell BK102.out 0).trans rfl; have hcz7_1 : w6.cell? ⟨gb102, 1, none⟩ = some (.int .u16 0) := (blk_cell BK102.out 1).trans rfl; have hcz7_2 : w6.cell? ⟨gb102, 2, none⟩ = some (.int .u32 0) := (blk_cell BK102.out 2).trans rfl; have hcz7_3 : w6.cell? ⟨gb102, 3, none⟩ = some (.int .i64 0) := (blk_cell BK102.out 3).trans rfl; have hcz7_4 : w6.cell? ⟨gb102, 4, none⟩ = some (.int .i64 0) := (blk_cell BK102.out 4).trans rfl; have hfz7_0 := blk_frozen BK102.out 0; have hfz7_1 := blk_frozen BK102.out 1; have hfz7_2 := blk_frozen BK102.out 2; have hfz7_3 := blk_frozen BK102.out 3; have hfz7_4 := blk_frozen BK102.out 4) | ((with_reducible refine gate_builtin (b := .append) (xs := #[.tmp 12, .tmp 24]) rfl ?_); at_builtin; refine Kd.R_append k38 (w0 := w) w.heap.size rfl (.tmp 12) (.tmp 24) 31 38 (.agg #[(.int .i64 0), (.int .u16 0), (.int .u32 0), (.int .i64 0), (.int .i64 0)]) 32 rfl Try.underlying31 info38 rfl (by decide) (by omega) u3 x3_1 (⟨(rd_T40 l0 x8_1).f0, (rd_T40 l0 x8_1).f1, (rd_T40 l0 x8_1).f2, (rd_T40 l0 x8_1).f3, (rd_T40 l0 x8_1).f4⟩ : S38) [.int .i64 ((rd_T40 l0 x8_1).f0), .int .u16 ((rd_T40 l0 x8_1).f1), .int .u32 ((rd_T40 l0 x8_1).f2), .int .i64 ((rd_T40 l0 x8_1).f3), .int .i64 ((rd_T40 l0 x8_1).f4)] (fun _ => True) (fun _ => False) rfl (by first | (go_simp; done) | (go_simp; rfl)) ?aP (fun _ hk => hk.elim) ?aF ?aO ?aB ?aS ?aL ?_; (case aP => exact k38_mkM _ _ _ (⟨(rd_T40 l0 x8_1).f0, (rd_T40 l0 x8_1).f1, (rd_T40 l0 x8_1).f2, (rd_T40 l0 x8_1).f3, (rd_T40 l0 x8_1).f4⟩ : S38)); (case aB => exact (by repeat (first | (with_reducible first | exact HB.out | apply below_alloc | apply pw_below_drewN | apply below_drew1 | refine below_set ?_ GE102.out) | exact HB.out))); (case aF => exact (fun _ _ => trivial)); (case aO => exact (by (with_reducible repeat (first | apply Kd.R_alloc | apply Kd.R_drewN | apply Kd.R_drew)); exact Kd.R_mono (Kd.R_far (p := ⟨gb102, 4, none⟩) (Kd.R_far (p := ⟨gb102, 3, none⟩) (Kd.R_far (p := ⟨gb102, 2, none⟩) (Kd.R_far (p := ⟨gb102, 1, none⟩) (Kd.R_far (p := ⟨gb102, 0, none⟩) (Kd.R_types HO_3.out BK102.out (by decide)) (fun _ hk => hk.2) (.int .i64 ((rd_T40 l0 x8_1).f0))) (fun _ hk => hk.2) (.int .u16 ((rd_T40 l0 x8_1).f1))) (fun _ hk => hk.2) (.int .u32 ((rd_T40 l0 x8_1).f2))) (fun _ hk => hk.2) (.int .i64 ((rd_T40 l0 x8_1).f3))) (fun _ hk => hk.2) (.int .i64 ((rd_T40 l0 x8_1).f4))) (fun _ hk => trivial))); (case aS => exact (below_size (by repeat (first | (with_reducible first | exact HB.out | apply below_alloc | apply pw_below_drewN | apply below_drew1 | refine below_set ?_ GE102.out) | exact HB.out)))); (case aL => have := LMc5.out; omega); intro v104 w8 ho hb hg hat; rw [← Ny103.out] at ho; have n0_ := Aside0.mk (blk_grown (g := gb102) (o := .cells #[.int .i64 ((rd_T40 l0 x8_1).f0), .int .u16 ((rd_T40 l0 x8_1).f1), .int .u32 ((rd_T40 l0 x8_1).f2), .int .i64 ((rd_T40 l0 x8_1).f3), .int .i64 ((rd_T40 l0 x8_1).f4)] 40 (0, 0)) (by (with_reducible repeat (first | refine blk_drewN ?_ _ | refine blk_drew ?_ | refine blk_alloc ?_ _)); refine blk_put (cs := #[.int .i64 ((rd_T40 l0 x8_1).f0), .int .u16 ((rd_T40 l0 x8_1).f1), .int .u32 ((rd_T40 l0 x8_1).f2), .int .i64 ((rd_T40 l0 x8_1).f3), .int .i64 0]) ?_ 4 _ rfl; (with_reducible repeat (first | refine blk_drewN ?_ _ | refine blk_drew ?_ | refine blk_alloc ?_ _)); refine blk_put (cs := #[.int .i64 ((rd_T40 l0 x8_1).f0), .int .u16 ((rd_T40 l0 x8_1).f1), .int .u32 ((rd_T40 l0 x8_1).f2), .int .i64 0, .int .i64 0]) ?_ 3 _ rfl; (with_reducible repeat (first | refine blk_drewN ?_ _ | refine blk_drew ?_ | refine blk_alloc ?_ _)); refine blk_put (cs := #[.int .i64 ((rd_T40 l0 x8_1).f0), .int .u16 ((rd_T40 l0 x8_1).f1), .int .u32 0, .int .i64 0, .int .i64 0]) ?_ 2 _ rfl; (with_reducible repeat (first | refine blk_drewN ?_ _ | refine blk_drew ?_ | refine blk_alloc ?_ _)); refine blk_put (cs := #[.int .i64 ((rd_T40 l0 x8_1).f0), .int .u16 0, .int .u32 0, .int .i64 0, .int .i64 0]) ?_ 1 _ rfl; (with_reducible repeat (first | refine blk_drewN ?_ _ | refine blk_drew ?_ | refine blk_alloc ?_ _)); refine blk_put (cs := #[.int .i64 0, .int .u16 0, .int .u32 0, .int .i64 0, .int .i64 0]) ?_ 0 _ rfl; (with_reducible repeat (first | refine blk_drewN ?_ _ | refine blk_drew ?_ | refine blk_alloc ?_ _)); exact BK102.out) hg (Kd.R_ne HO_3.out BK102.out (by decide))); have n1_ := Aside0.mk (hb); have n2_ := Aside0.mk (ho); clear BK102; clear HB; clear HO_3; have BK102 := n0_; have HB := n1_; have HO105 := n2_; clear n0_ n1_ n2_; clear ho hb hg hat))
              go_roundg k1
              case measure => have := HK1.out; omega
              case rel => exact ⟨(y103), (wrap64 (x8_1 + 1)), (by first | rfl | (simp; done) | (simp [*]; done)), H', ⟨by have := HK1.out; omega⟩, ⟨by (with_reducible repeat (first | apply Kd.R_alloc | apply Kd.R_drewN | apply Kd.R_drew)); exact HO105.out⟩, ⟨by repeat (first | (with_reducible first | exact HB.out | apply below_alloc | apply pw_below_drewN | apply below_drew1 | refine below_set ?_ GE102.out) | exact HB.out)⟩⟩
            · rw [if_neg c5] at H
              exact absurd H (by simp)
          · rw [if_neg c4] at H
            exact absurd H (by simp)
        · rw [if_neg c3] at H
          exact absurd H (by simp)
      · rw [if_neg c2] at H
        have c2b0 : decide (x8_1 < (l0.length : Int)) = false := decide_eq_false c2
        clear c2
        obtain rfl := Option.some.inj H
        go_wp2
        go_ret
        exact ⟨_, by first | rfl | (simp [errW_none, errW_some] <;> rfl) | (simp [*, errW_none, errW_some] <;> rfl), by (with_reducible repeat (first | apply Kd.R_alloc | apply Kd.R_drewN | apply Kd.R_drew)); exact HO_3.out, by repeat (first | (with_reducible first | exact HB.out | apply below_alloc | apply pw_below_drewN | apply below_drew1) | exact HB.out)⟩

/-! ### tamisref04_All: function 106 -/
def tamisref04_All.f  : Option (List Int) := some (([0, 1, 2, 3, 4, 5, 6, 7, 12, 20, 21, 22, 28, 29, 32, 36, 37, 44, 45, 52, 53, 60, 61, 68, 69, 76, 77, 84, 92, 96, 97, 100, 108, 116, 124, 128, 129, 132, 135, 164, 172] : List Int))
set_option maxHeartbeats 8000000 in
set_option maxRecDepth 100000 in
theorem tamisref04_All.calls  (r : List Int) (w : World) (h : tamisref04_All.f  = some r) :
    Calls Try.prog 106 #[] w fun e w' => ∃ v0_ : Value, e = .returned (v0_) ∧ Kd.R (Kd.int .u16) 35 w' w.heap.size (fun _ => True) v0_ r ∧ Below w.heap.size w w' := by
  have HB := Aside0.mk (Below.refl w.heap.size w)
  have H : (some (([0, 1, 2, 3, 4, 5, 6, 7, 12, 20, 21, 22, 28, 29, 32, 36, 37, 44, 45, 52, 53, 60, 61, 68, 69, 76, 77, 84, 92, 96, 97, 100, 108, 116, 124, 128, 129, 132, 135, 164, 172] : List Int))) = some r := h
  clear h
  obtain ⟨y106, hy106⟩ : ∃ y_ : List Int, y_ = (([0, 1, 2, 3, 4, 5, 6, 7, 12, 20, 21, 22, 28, 29, 32, 36, 37, 44, 45, 52, 53, 60, 61, 68, 69, 76, 77, 84, 92, 96, 97, 100, 108, 116, 124, 128, 129, 132, 135, 164, 172] : List Int)) := ⟨_, rfl⟩
  replace H : (some y106) = some r := by first | (rw [hy106]; with_reducible exact H) | (have H2_ := (Option.bind_some _ _).symm.trans H; rw [hy106]; with_reducible exact H2_) | (have H2_ := (Option.bind_some _ _).symm.trans H; with_reducible exact H2_) | with_reducible exact H | (rw [hy106]; exact H) | exact H
  have Ny106 := Aside0.mk hy106
  clear hy106
  obtain rfl := Option.some.inj H
  go_enter Try.func106, Try.ntmps106
  go_wp2_with (first | ((with_reducible refine gate_dst (N := 1) rfl ?_); refine Kd.R_lit (Kd.int .u16) _ 35 ?hg (N := 1) ?hd (xs := ([0, 1, 2, 3, 4, 5, 6, 7, 12, 20, 21, 22, 28, 29, 32, 36, 37, 44, 45, 52, 53, 60, 61, 68, 69, 76, 77, 84, 92, 96, 97, 100, 108, 116, 124, 128, 129, 132, 135, 164, 172] : List Int)) (inner := [.int .u16 0, .int .u16 1, .int .u16 2, .int .u16 3, .int .u16 4, .int .u16 5, .int .u16 6, .int .u16 7, .int .u16 12, .int .u16 20, .int .u16 21, .int .u16 22, .int .u16 28, .int .u16 29, .int .u16 32, .int .u16 36, .int .u16 37, .int .u16 44, .int .u16 45, .int .u16 52, .int .u16 53, .int .u16 60, .int .u16 61, .int .u16 68, .int .u16 69, .int .u16 76, .int .u16 77, .int .u16 84, .int .u16 92, .int .u16 96, .int .u16 97, .int .u16 100, .int .u16 108, .int .u16 116, .int .u16 124, .int .u16 128, .int .u16 129, .int .u16 132, .int .u16 135, .int .u16 164, .int .u16 172]) (ok := fun _ => True) (okp := fun _ => True) ?hr ?hp (fun _ hk => hk) trivial (Below.refl _ _) (Nat.le_refl _) (by simp) ?_; (case hd => rfl); (case hg => rfl); (case hr => first | (go_simp; done) | (go_simp; rfl)); (case hp => exact (Reps.one (show Kd.M (Kd.int .u16) _ _ _ 0 [.int .u16 0] from rfl) (Reps.one (show Kd.M (Kd.int .u16) _ _ _ 1 [.int .u16 1] from rfl) (Reps.one (show Kd.M (Kd.int .u16) _ _ _ 2 [.int .u16 2] from rfl) (Reps.one (show Kd.M (Kd.int .u16) _ _ _ 3 [.int .u16 3] from rfl) (Reps.one (show Kd.M (Kd.int .u16) _ _ _ 4 [.int .u16 4] from rfl) (Reps.one (show Kd.M (Kd.int .u16) _ _ _ 5 [.int .u16 5] from rfl) (Reps.one (show Kd.M (Kd.int .u16) _ _ _ 6 [.int .u16 6] from rfl) (Reps.one (show Kd.M (Kd.int .u16) _ _ _ 7 [.int .u16 7] from rfl) (Reps.one (show Kd.M (Kd.int .u16) _ _ _ 12 [.int .u16 12] from rfl) (Reps.one (show Kd.M (Kd.int .u16) _ _ _ 20 [.int .u16 20] from rfl) (Reps.one (show Kd.M (Kd.int .u16) _ _ _ 21 [.int .u16 21] from rfl) (Reps.one (show Kd.M (Kd.int .u16) _ _ _ 22 [.int .u16 22] from rfl) (Reps.one (show Kd.M (Kd.int .u16) _ _ _ 28 [.int .u16 28] from rfl) (Reps.one (show Kd.M (Kd.int .u16) _ _ _ 29 [.int .u16 29] from rfl) (Reps.one (show Kd.M (Kd.int .u16) _ _ _ 32 [.int .u16 32] from rfl) (Reps.one (show Kd.M (Kd.int .u16) _ _ _ 36 [.int .u16 36] from rfl) (Reps.one (show Kd.M (Kd.int .u16) _ _ _ 37 [.int .u16 37] from rfl) (Reps.one (show Kd.M (Kd.int .u16) _ _ _ 44 [.int .u16 44] from rfl) (Reps.one (show Kd.M (Kd.int .u16) _ _ _ 45 [.int .u16 45] from rfl) (Reps.one (show Kd.M (Kd.int .u16) _ _ _ 52 [.int .u16 52] from rfl) (Reps.one (show Kd.M (Kd.int .u16) _ _ _ 53 [.int .u16 53] from rfl) (Reps.one (show Kd.M (Kd.int .u16) _ _ _ 60 [.int .u16 60] from rfl) (Reps.one (show Kd.M (Kd.int .u16) _ _ _ 61 [.int .u16 61] from rfl) (Reps.one (show Kd.M (Kd.int .u16) _ _ _ 68 [.int .u16 68] from rfl) (Reps.one (show Kd.M (Kd.int .u16) _ _ _ 69 [.int .u16 69] from rfl) (Reps.one (show Kd.M (Kd.int .u16) _ _ _ 76 [.int .u16 76] from rfl) (Reps.one (show Kd.M (Kd.int .u16) _ _ _ 77 [.int .u16 77] from rfl) (Reps.one (show Kd.M (Kd.int .u16) _ _ _ 84 [.int .u16 84] from rfl) (Reps.one (show Kd.M (Kd.int .u16) _ _ _ 92 [.int .u16 92] from rfl) (Reps.one (show Kd.M (Kd.int .u16) _ _ _ 96 [.int .u16 96] from rfl) (Reps.one (show Kd.M (Kd.int .u16) _ _ _ 97 [.int .u16 97] from rfl) (Reps.one (show Kd.M (Kd.int .u16) _ _ _ 100 [.int .u16 100] from rfl) (Reps.one (show Kd.M (Kd.int .u16) _ _ _ 108 [.int .u16 108] from rfl) (Reps.one (show Kd.M (Kd.int .u16) _ _ _ 116 [.int .u16 116] from rfl) (Reps.one (show Kd.M (Kd.int .u16) _ _ _ 124 [.int .u16 124] from rfl) (Reps.one (show Kd.M (Kd.int .u16) _ _ _ 128 [.int .u16 128] from rfl) (Reps.one (show Kd.M (Kd.int .u16) _ _ _ 129 [.int .u16 129] from rfl) (Reps.one (show Kd.M (Kd.int .u16) _ _ _ 132 [.int .u16 132] from rfl) (Reps.one (show Kd.M (Kd.int .u16) _ _ _ 135 [.int .u16 135] from rfl) (Reps.one (show Kd.M (Kd.int .u16) _ _ _ 164 [.int .u16 164] from rfl) (Reps.one (show Kd.M (Kd.int .u16) _ _ _ 172 [.int .u16 172] from rfl) (Reps.none _ _))))))))))))))))))))))))))))))))))))))))))); intro v107 w1 ho2 hb hg_ hnew_; clear hg_ hnew_; (first | rw [← Ny106.out] at ho2 | (simp only [Int.reduceToNat] at ho2; rw [← Ny106.out] at ho2)); have n0_ := Aside0.mk (Kd.R_lower ho2 (below_size (by repeat (first | (with_reducible first | exact HB.out | apply below_alloc | apply pw_below_drewN | apply below_drew1) | exact HB.out)))); have n1_ := Aside0.mk (below_step (by repeat (first | (with_reducible first | exact HB.out | apply below_alloc | apply pw_below_drewN | apply below_drew1) | exact HB.out)) hb); clear HB; have HO108 := n0_; have HB := n1_; clear n0_ n1_; clear hb ho2))
  go_ret
  exact ⟨_, by first | rfl | (simp [errW_none, errW_some] <;> rfl) | (simp [*, errW_none, errW_some] <;> rfl), by (with_reducible repeat (first | apply Kd.R_alloc | apply Kd.R_drewN | apply Kd.R_drew)); exact HO108.out, by repeat (first | (with_reducible first | exact HB.out | apply below_alloc | apply pw_below_drewN | apply below_drew1) | exact HB.out)⟩

/-! ### tamisref04_Name: function 84 -/
def tamisref04_Name.l0 : Nat → Int → List ByteArray → List Int → Int → Option (ByteArray)
  | 0, _, _, _, _ => none
  | k + 1, x0, x3, x4, x5 => if x5 < (x4.length : Int) then (if 0 ≤ x5 then (if (rd x4 x5) = x0 then (if x5 < (x3.length : Int) then (some (rdOf ByteArray.empty x3 x5)) else (none)) else (tamisref04_Name.l0 k x0 x3 x4 (wrap64 (x5 + 1)))) else (none)) else (some (⟨#[]⟩ : ByteArray))
def tamisref04_Name.f (k : Nat) (a0 : Int) : Option (ByteArray) := (tamisref04_All.f).bind fun t112 => (tamisref04_Name.l0 k a0 (([(⟨#[108, 100, 105]⟩ : ByteArray), (⟨#[108, 100, 120, 105]⟩ : ByteArray), (⟨#[115, 116]⟩ : ByteArray), (⟨#[115, 116, 120]⟩ : ByteArray), (⟨#[97, 100, 100]⟩ : ByteArray), (⟨#[106, 97]⟩ : ByteArray), (⟨#[114, 101, 116]⟩ : ByteArray), (⟨#[116, 97, 120]⟩ : ByteArray), (⟨#[97, 100, 100, 120]⟩ : ByteArray), (⟨#[115, 117, 98]⟩ : ByteArray), (⟨#[106, 101, 113]⟩ : ByteArray), (⟨#[114, 101, 116, 97]⟩ : ByteArray), (⟨#[115, 117, 98, 120]⟩ : ByteArray), (⟨#[106, 101, 113, 120]⟩ : ByteArray), (⟨#[108, 100]⟩ : ByteArray), (⟨#[109, 117, 108]⟩ : ByteArray), (⟨#[106, 103, 116]⟩ : ByteArray), (⟨#[109, 117, 108, 120]⟩ : ByteArray), (⟨#[106, 103, 116, 120]⟩ : ByteArray), (⟨#[100, 105, 118]⟩ : ByteArray), (⟨#[106, 103, 101]⟩ : ByteArray), (⟨#[100, 105, 118, 120]⟩ : ByteArray), (⟨#[106, 103, 101, 120]⟩ : ByteArray), (⟨#[111, 114]⟩ : ByteArray), (⟨#[106, 115, 101, 116]⟩ : ByteArray), (⟨#[111, 114, 120]⟩ : ByteArray), (⟨#[106, 115, 101, 116, 120]⟩ : ByteArray), (⟨#[97, 110, 100]⟩ : ByteArray), (⟨#[97, 110, 100, 120]⟩ : ByteArray), (⟨#[108, 100, 109]⟩ : ByteArray), (⟨#[108, 100, 120, 109]⟩ : ByteArray), (⟨#[108, 115, 104]⟩ : ByteArray), (⟨#[108, 115, 104, 120]⟩ : ByteArray), (⟨#[114, 115, 104]⟩ : ByteArray), (⟨#[114, 115, 104, 120]⟩ : ByteArray), (⟨#[108, 100, 108, 101, 110]⟩ : ByteArray), (⟨#[108, 100, 120, 108, 101, 110]⟩ : ByteArray), (⟨#[110, 101, 103]⟩ : ByteArray), (⟨#[116, 120, 97]⟩ : ByteArray), (⟨#[120, 111, 114]⟩ : ByteArray), (⟨#[120, 111, 114, 120]⟩ : ByteArray)] : List ByteArray)) t112 0)
theorem tamisref04_Name.mono_l : ∀ k, (∀ y0 y1 y2 y3, LeO (tamisref04_Name.l0 k y0 y1 y2 y3) (tamisref04_Name.l0 (k + 1) y0 y1 y2 y3))
  | 0 => fun _ _ _ _ r h => by simp [tamisref04_Name.l0] at h
  | k + 1 => by
    have ih0 := tamisref04_Name.mono_l k
    · intro y0 y1 y2 y3
      unfold tamisref04_Name.l0
      repeat' first
      | (with_reducible exact ih0 _ _ _ _)
      | (with_reducible exact LeO.refl _)
      | (with_reducible exact LeO.none _)
      | (with_reducible refine LeO.ite ?_ ?_)
      | (with_reducible refine LeO.bind ?_ (fun _ => ?_))
      | exact ih0 _ _ _ _
      | exact LeO.none _
      | refine LeO.ite ?_ ?_
      | refine LeO.bind ?_ (fun _ => ?_)
theorem tamisref04_Name.mono : ∀ a0 k, LeO (tamisref04_Name.f k a0) (tamisref04_Name.f (k + 1) a0) := by
  intro a0 k
  have ih0 := tamisref04_Name.mono_l k
  unfold tamisref04_Name.f
  repeat' first
      | (with_reducible exact ih0 _ _ _ _)
      | (with_reducible exact LeO.refl _)
      | (with_reducible exact LeO.none _)
      | (with_reducible refine LeO.ite ?_ ?_)
      | (with_reducible refine LeO.bind ?_ (fun _ => ?_))
      | exact ih0 _ _ _ _
      | exact LeO.none _
      | refine LeO.ite ?_ ?_
      | refine LeO.bind ?_ (fun _ => ?_)
set_option maxHeartbeats 8000000 in
set_option maxRecDepth 100000 in
theorem tamisref04_Name.calls (k : Nat) (a0 : Int) (r : ByteArray) (w : World) (h : tamisref04_Name.f k a0 = some r) :
    Calls Try.prog 84 #[.int .u16 a0] w fun e w' => e = .returned (.string r) ∧ Below w.heap.size w w' := by
  have HB := Aside0.mk (Below.refl w.heap.size w)
  have H : ((tamisref04_All.f).bind fun t112 => (tamisref04_Name.l0 k a0 (([(⟨#[108, 100, 105]⟩ : ByteArray), (⟨#[108, 100, 120, 105]⟩ : ByteArray), (⟨#[115, 116]⟩ : ByteArray), (⟨#[115, 116, 120]⟩ : ByteArray), (⟨#[97, 100, 100]⟩ : ByteArray), (⟨#[106, 97]⟩ : ByteArray), (⟨#[114, 101, 116]⟩ : ByteArray), (⟨#[116, 97, 120]⟩ : ByteArray), (⟨#[97, 100, 100, 120]⟩ : ByteArray), (⟨#[115, 117, 98]⟩ : ByteArray), (⟨#[106, 101, 113]⟩ : ByteArray), (⟨#[114, 101, 116, 97]⟩ : ByteArray), (⟨#[115, 117, 98, 120]⟩ : ByteArray), (⟨#[106, 101, 113, 120]⟩ : ByteArray), (⟨#[108, 100]⟩ : ByteArray), (⟨#[109, 117, 108]⟩ : ByteArray), (⟨#[106, 103, 116]⟩ : ByteArray), (⟨#[109, 117, 108, 120]⟩ : ByteArray), (⟨#[106, 103, 116, 120]⟩ : ByteArray), (⟨#[100, 105, 118]⟩ : ByteArray), (⟨#[106, 103, 101]⟩ : ByteArray), (⟨#[100, 105, 118, 120]⟩ : ByteArray), (⟨#[106, 103, 101, 120]⟩ : ByteArray), (⟨#[111, 114]⟩ : ByteArray), (⟨#[106, 115, 101, 116]⟩ : ByteArray), (⟨#[111, 114, 120]⟩ : ByteArray), (⟨#[106, 115, 101, 116, 120]⟩ : ByteArray), (⟨#[97, 110, 100]⟩ : ByteArray), (⟨#[97, 110, 100, 120]⟩ : ByteArray), (⟨#[108, 100, 109]⟩ : ByteArray), (⟨#[108, 100, 120, 109]⟩ : ByteArray), (⟨#[108, 115, 104]⟩ : ByteArray), (⟨#[108, 115, 104, 120]⟩ : ByteArray), (⟨#[114, 115, 104]⟩ : ByteArray), (⟨#[114, 115, 104, 120]⟩ : ByteArray), (⟨#[108, 100, 108, 101, 110]⟩ : ByteArray), (⟨#[108, 100, 120, 108, 101, 110]⟩ : ByteArray), (⟨#[110, 101, 103]⟩ : ByteArray), (⟨#[116, 120, 97]⟩ : ByteArray), (⟨#[120, 111, 114]⟩ : ByteArray), (⟨#[120, 111, 114, 120]⟩ : ByteArray)] : List ByteArray)) t112 0)) = some r := h
  clear h
  obtain ⟨y109, hy109⟩ : ∃ y_ : List ByteArray, y_ = (([(⟨#[108, 100, 105]⟩ : ByteArray), (⟨#[108, 100, 120, 105]⟩ : ByteArray), (⟨#[115, 116]⟩ : ByteArray), (⟨#[115, 116, 120]⟩ : ByteArray), (⟨#[97, 100, 100]⟩ : ByteArray), (⟨#[106, 97]⟩ : ByteArray), (⟨#[114, 101, 116]⟩ : ByteArray), (⟨#[116, 97, 120]⟩ : ByteArray), (⟨#[97, 100, 100, 120]⟩ : ByteArray), (⟨#[115, 117, 98]⟩ : ByteArray), (⟨#[106, 101, 113]⟩ : ByteArray), (⟨#[114, 101, 116, 97]⟩ : ByteArray), (⟨#[115, 117, 98, 120]⟩ : ByteArray), (⟨#[106, 101, 113, 120]⟩ : ByteArray), (⟨#[108, 100]⟩ : ByteArray), (⟨#[109, 117, 108]⟩ : ByteArray), (⟨#[106, 103, 116]⟩ : ByteArray), (⟨#[109, 117, 108, 120]⟩ : ByteArray), (⟨#[106, 103, 116, 120]⟩ : ByteArray), (⟨#[100, 105, 118]⟩ : ByteArray), (⟨#[106, 103, 101]⟩ : ByteArray), (⟨#[100, 105, 118, 120]⟩ : ByteArray), (⟨#[106, 103, 101, 120]⟩ : ByteArray), (⟨#[111, 114]⟩ : ByteArray), (⟨#[106, 115, 101, 116]⟩ : ByteArray), (⟨#[111, 114, 120]⟩ : ByteArray), (⟨#[106, 115, 101, 116, 120]⟩ : ByteArray), (⟨#[97, 110, 100]⟩ : ByteArray), (⟨#[97, 110, 100, 120]⟩ : ByteArray), (⟨#[108, 100, 109]⟩ : ByteArray), (⟨#[108, 100, 120, 109]⟩ : ByteArray), (⟨#[108, 115, 104]⟩ : ByteArray), (⟨#[108, 115, 104, 120]⟩ : ByteArray), (⟨#[114, 115, 104]⟩ : ByteArray), (⟨#[114, 115, 104, 120]⟩ : ByteArray), (⟨#[108, 100, 108, 101, 110]⟩ : ByteArray), (⟨#[108, 100, 120, 108, 101, 110]⟩ : ByteArray), (⟨#[110, 101, 103]⟩ : ByteArray), (⟨#[116, 120, 97]⟩ : ByteArray), (⟨#[120, 111, 114]⟩ : ByteArray), (⟨#[120, 111, 114, 120]⟩ : ByteArray)] : List ByteArray)) := ⟨_, rfl⟩
  replace H : ((tamisref04_All.f).bind fun t112 => (tamisref04_Name.l0 k a0 y109 t112 0)) = some r := by first | (rw [hy109]; with_reducible exact H) | (have H2_ := (Option.bind_some _ _).symm.trans H; rw [hy109]; with_reducible exact H2_) | (have H2_ := (Option.bind_some _ _).symm.trans H; with_reducible exact H2_) | with_reducible exact H | (rw [hy109]; exact H) | exact H
  have Ny109 := Aside0.mk hy109
  clear hy109
  replace H := Option.bind_eq_some_iff.mp H
  obtain ⟨t112, A20, H⟩ := H
  replace H : (tamisref04_Name.l0 k a0 y109 t112 0) = some r := H
  have A2 := Aside0.mk A20
  clear A20
  have H' := Aside0.mk H
  clear H
  go_enter Try.func84, Try.ntmps84
  go_wp2_with (first | ((with_reducible refine gate_dst (N := 6) rfl ?_); refine Kd.R_lit Kd.string _ 9 ?hg (N := 6) ?hd (xs := ([(⟨#[108, 100, 105]⟩ : ByteArray), (⟨#[108, 100, 120, 105]⟩ : ByteArray), (⟨#[115, 116]⟩ : ByteArray), (⟨#[115, 116, 120]⟩ : ByteArray), (⟨#[97, 100, 100]⟩ : ByteArray), (⟨#[106, 97]⟩ : ByteArray), (⟨#[114, 101, 116]⟩ : ByteArray), (⟨#[116, 97, 120]⟩ : ByteArray), (⟨#[97, 100, 100, 120]⟩ : ByteArray), (⟨#[115, 117, 98]⟩ : ByteArray), (⟨#[106, 101, 113]⟩ : ByteArray), (⟨#[114, 101, 116, 97]⟩ : ByteArray), (⟨#[115, 117, 98, 120]⟩ : ByteArray), (⟨#[106, 101, 113, 120]⟩ : ByteArray), (⟨#[108, 100]⟩ : ByteArray), (⟨#[109, 117, 108]⟩ : ByteArray), (⟨#[106, 103, 116]⟩ : ByteArray), (⟨#[109, 117, 108, 120]⟩ : ByteArray), (⟨#[106, 103, 116, 120]⟩ : ByteArray), (⟨#[100, 105, 118]⟩ : ByteArray), (⟨#[106, 103, 101]⟩ : ByteArray), (⟨#[100, 105, 118, 120]⟩ : ByteArray), (⟨#[106, 103, 101, 120]⟩ : ByteArray), (⟨#[111, 114]⟩ : ByteArray), (⟨#[106, 115, 101, 116]⟩ : ByteArray), (⟨#[111, 114, 120]⟩ : ByteArray), (⟨#[106, 115, 101, 116, 120]⟩ : ByteArray), (⟨#[97, 110, 100]⟩ : ByteArray), (⟨#[97, 110, 100, 120]⟩ : ByteArray), (⟨#[108, 100, 109]⟩ : ByteArray), (⟨#[108, 100, 120, 109]⟩ : ByteArray), (⟨#[108, 115, 104]⟩ : ByteArray), (⟨#[108, 115, 104, 120]⟩ : ByteArray), (⟨#[114, 115, 104]⟩ : ByteArray), (⟨#[114, 115, 104, 120]⟩ : ByteArray), (⟨#[108, 100, 108, 101, 110]⟩ : ByteArray), (⟨#[108, 100, 120, 108, 101, 110]⟩ : ByteArray), (⟨#[110, 101, 103]⟩ : ByteArray), (⟨#[116, 120, 97]⟩ : ByteArray), (⟨#[120, 111, 114]⟩ : ByteArray), (⟨#[120, 111, 114, 120]⟩ : ByteArray)] : List ByteArray)) (inner := [.string (⟨#[108, 100, 105]⟩ : ByteArray), .string (⟨#[108, 100, 120, 105]⟩ : ByteArray), .string (⟨#[115, 116]⟩ : ByteArray), .string (⟨#[115, 116, 120]⟩ : ByteArray), .string (⟨#[97, 100, 100]⟩ : ByteArray), .string (⟨#[106, 97]⟩ : ByteArray), .string (⟨#[114, 101, 116]⟩ : ByteArray), .string (⟨#[116, 97, 120]⟩ : ByteArray), .string (⟨#[97, 100, 100, 120]⟩ : ByteArray), .string (⟨#[115, 117, 98]⟩ : ByteArray), .string (⟨#[106, 101, 113]⟩ : ByteArray), .string (⟨#[114, 101, 116, 97]⟩ : ByteArray), .string (⟨#[115, 117, 98, 120]⟩ : ByteArray), .string (⟨#[106, 101, 113, 120]⟩ : ByteArray), .string (⟨#[108, 100]⟩ : ByteArray), .string (⟨#[109, 117, 108]⟩ : ByteArray), .string (⟨#[106, 103, 116]⟩ : ByteArray), .string (⟨#[109, 117, 108, 120]⟩ : ByteArray), .string (⟨#[106, 103, 116, 120]⟩ : ByteArray), .string (⟨#[100, 105, 118]⟩ : ByteArray), .string (⟨#[106, 103, 101]⟩ : ByteArray), .string (⟨#[100, 105, 118, 120]⟩ : ByteArray), .string (⟨#[106, 103, 101, 120]⟩ : ByteArray), .string (⟨#[111, 114]⟩ : ByteArray), .string (⟨#[106, 115, 101, 116]⟩ : ByteArray), .string (⟨#[111, 114, 120]⟩ : ByteArray), .string (⟨#[106, 115, 101, 116, 120]⟩ : ByteArray), .string (⟨#[97, 110, 100]⟩ : ByteArray), .string (⟨#[97, 110, 100, 120]⟩ : ByteArray), .string (⟨#[108, 100, 109]⟩ : ByteArray), .string (⟨#[108, 100, 120, 109]⟩ : ByteArray), .string (⟨#[108, 115, 104]⟩ : ByteArray), .string (⟨#[108, 115, 104, 120]⟩ : ByteArray), .string (⟨#[114, 115, 104]⟩ : ByteArray), .string (⟨#[114, 115, 104, 120]⟩ : ByteArray), .string (⟨#[108, 100, 108, 101, 110]⟩ : ByteArray), .string (⟨#[108, 100, 120, 108, 101, 110]⟩ : ByteArray), .string (⟨#[110, 101, 103]⟩ : ByteArray), .string (⟨#[116, 120, 97]⟩ : ByteArray), .string (⟨#[120, 111, 114]⟩ : ByteArray), .string (⟨#[120, 111, 114, 120]⟩ : ByteArray)]) (ok := fun _ => True) (okp := fun _ => True) ?hr ?hp (fun _ hk => hk) trivial (Below.refl _ _) (Nat.le_refl _) (by simp) ?_; (case hd => rfl); (case hg => rfl); (case hr => first | (go_simp; done) | (go_simp; rfl)); (case hp => exact (Reps.one (show Kd.M Kd.string _ _ _ (⟨#[108, 100, 105]⟩ : ByteArray) [.string (⟨#[108, 100, 105]⟩ : ByteArray)] from rfl) (Reps.one (show Kd.M Kd.string _ _ _ (⟨#[108, 100, 120, 105]⟩ : ByteArray) [.string (⟨#[108, 100, 120, 105]⟩ : ByteArray)] from rfl) (Reps.one (show Kd.M Kd.string _ _ _ (⟨#[115, 116]⟩ : ByteArray) [.string (⟨#[115, 116]⟩ : ByteArray)] from rfl) (Reps.one (show Kd.M Kd.string _ _ _ (⟨#[115, 116, 120]⟩ : ByteArray) [.string (⟨#[115, 116, 120]⟩ : ByteArray)] from rfl) (Reps.one (show Kd.M Kd.string _ _ _ (⟨#[97, 100, 100]⟩ : ByteArray) [.string (⟨#[97, 100, 100]⟩ : ByteArray)] from rfl) (Reps.one (show Kd.M Kd.string _ _ _ (⟨#[106, 97]⟩ : ByteArray) [.string (⟨#[106, 97]⟩ : ByteArray)] from rfl) (Reps.one (show Kd.M Kd.string _ _ _ (⟨#[114, 101, 116]⟩ : ByteArray) [.string (⟨#[114, 101, 116]⟩ : ByteArray)] from rfl) (Reps.one (show Kd.M Kd.string _ _ _ (⟨#[116, 97, 120]⟩ : ByteArray) [.string (⟨#[116, 97, 120]⟩ : ByteArray)] from rfl) (Reps.one (show Kd.M Kd.string _ _ _ (⟨#[97, 100, 100, 120]⟩ : ByteArray) [.string (⟨#[97, 100, 100, 120]⟩ : ByteArray)] from rfl) (Reps.one (show Kd.M Kd.string _ _ _ (⟨#[115, 117, 98]⟩ : ByteArray) [.string (⟨#[115, 117, 98]⟩ : ByteArray)] from rfl) (Reps.one (show Kd.M Kd.string _ _ _ (⟨#[106, 101, 113]⟩ : ByteArray) [.string (⟨#[106, 101, 113]⟩ : ByteArray)] from rfl) (Reps.one (show Kd.M Kd.string _ _ _ (⟨#[114, 101, 116, 97]⟩ : ByteArray) [.string (⟨#[114, 101, 116, 97]⟩ : ByteArray)] from rfl) (Reps.one (show Kd.M Kd.string _ _ _ (⟨#[115, 117, 98, 120]⟩ : ByteArray) [.string (⟨#[115, 117, 98, 120]⟩ : ByteArray)] from rfl) (Reps.one (show Kd.M Kd.string _ _ _ (⟨#[106, 101, 113, 120]⟩ : ByteArray) [.string (⟨#[106, 101, 113, 120]⟩ : ByteArray)] from rfl) (Reps.one (show Kd.M Kd.string _ _ _ (⟨#[108, 100]⟩ : ByteArray) [.string (⟨#[108, 100]⟩ : ByteArray)] from rfl) (Reps.one (show Kd.M Kd.string _ _ _ (⟨#[109, 117, 108]⟩ : ByteArray) [.string (⟨#[109, 117, 108]⟩ : ByteArray)] from rfl) (Reps.one (show Kd.M Kd.string _ _ _ (⟨#[106, 103, 116]⟩ : ByteArray) [.string (⟨#[106, 103, 116]⟩ : ByteArray)] from rfl) (Reps.one (show Kd.M Kd.string _ _ _ (⟨#[109, 117, 108, 120]⟩ : ByteArray) [.string (⟨#[109, 117, 108, 120]⟩ : ByteArray)] from rfl) (Reps.one (show Kd.M Kd.string _ _ _ (⟨#[106, 103, 116, 120]⟩ : ByteArray) [.string (⟨#[106, 103, 116, 120]⟩ : ByteArray)] from rfl) (Reps.one (show Kd.M Kd.string _ _ _ (⟨#[100, 105, 118]⟩ : ByteArray) [.string (⟨#[100, 105, 118]⟩ : ByteArray)] from rfl) (Reps.one (show Kd.M Kd.string _ _ _ (⟨#[106, 103, 101]⟩ : ByteArray) [.string (⟨#[106, 103, 101]⟩ : ByteArray)] from rfl) (Reps.one (show Kd.M Kd.string _ _ _ (⟨#[100, 105, 118, 120]⟩ : ByteArray) [.string (⟨#[100, 105, 118, 120]⟩ : ByteArray)] from rfl) (Reps.one (show Kd.M Kd.string _ _ _ (⟨#[106, 103, 101, 120]⟩ : ByteArray) [.string (⟨#[106, 103, 101, 120]⟩ : ByteArray)] from rfl) (Reps.one (show Kd.M Kd.string _ _ _ (⟨#[111, 114]⟩ : ByteArray) [.string (⟨#[111, 114]⟩ : ByteArray)] from rfl) (Reps.one (show Kd.M Kd.string _ _ _ (⟨#[106, 115, 101, 116]⟩ : ByteArray) [.string (⟨#[106, 115, 101, 116]⟩ : ByteArray)] from rfl) (Reps.one (show Kd.M Kd.string _ _ _ (⟨#[111, 114, 120]⟩ : ByteArray) [.string (⟨#[111, 114, 120]⟩ : ByteArray)] from rfl) (Reps.one (show Kd.M Kd.string _ _ _ (⟨#[106, 115, 101, 116, 120]⟩ : ByteArray) [.string (⟨#[106, 115, 101, 116, 120]⟩ : ByteArray)] from rfl) (Reps.one (show Kd.M Kd.string _ _ _ (⟨#[97, 110, 100]⟩ : ByteArray) [.string (⟨#[97, 110, 100]⟩ : ByteArray)] from rfl) (Reps.one (show Kd.M Kd.string _ _ _ (⟨#[97, 110, 100, 120]⟩ : ByteArray) [.string (⟨#[97, 110, 100, 120]⟩ : ByteArray)] from rfl) (Reps.one (show Kd.M Kd.string _ _ _ (⟨#[108, 100, 109]⟩ : ByteArray) [.string (⟨#[108, 100, 109]⟩ : ByteArray)] from rfl) (Reps.one (show Kd.M Kd.string _ _ _ (⟨#[108, 100, 120, 109]⟩ : ByteArray) [.string (⟨#[108, 100, 120, 109]⟩ : ByteArray)] from rfl) (Reps.one (show Kd.M Kd.string _ _ _ (⟨#[108, 115, 104]⟩ : ByteArray) [.string (⟨#[108, 115, 104]⟩ : ByteArray)] from rfl) (Reps.one (show Kd.M Kd.string _ _ _ (⟨#[108, 115, 104, 120]⟩ : ByteArray) [.string (⟨#[108, 115, 104, 120]⟩ : ByteArray)] from rfl) (Reps.one (show Kd.M Kd.string _ _ _ (⟨#[114, 115, 104]⟩ : ByteArray) [.string (⟨#[114, 115, 104]⟩ : ByteArray)] from rfl) (Reps.one (show Kd.M Kd.string _ _ _ (⟨#[114, 115, 104, 120]⟩ : ByteArray) [.string (⟨#[114, 115, 104, 120]⟩ : ByteArray)] from rfl) (Reps.one (show Kd.M Kd.string _ _ _ (⟨#[108, 100, 108, 101, 110]⟩ : ByteArray) [.string (⟨#[108, 100, 108, 101, 110]⟩ : ByteArray)] from rfl) (Reps.one (show Kd.M Kd.string _ _ _ (⟨#[108, 100, 120, 108, 101, 110]⟩ : ByteArray) [.string (⟨#[108, 100, 120, 108, 101, 110]⟩ : ByteArray)] from rfl) (Reps.one (show Kd.M Kd.string _ _ _ (⟨#[110, 101, 103]⟩ : ByteArray) [.string (⟨#[110, 101, 103]⟩ : ByteArray)] from rfl) (Reps.one (show Kd.M Kd.string _ _ _ (⟨#[116, 120, 97]⟩ : ByteArray) [.string (⟨#[116, 120, 97]⟩ : ByteArray)] from rfl) (Reps.one (show Kd.M Kd.string _ _ _ (⟨#[120, 111, 114]⟩ : ByteArray) [.string (⟨#[120, 111, 114]⟩ : ByteArray)] from rfl) (Reps.one (show Kd.M Kd.string _ _ _ (⟨#[120, 111, 114, 120]⟩ : ByteArray) [.string (⟨#[120, 111, 114, 120]⟩ : ByteArray)] from rfl) (Reps.none _ _))))))))))))))))))))))))))))))))))))))))))); intro v110 w3 ho4 hb hg_ hnew_; clear hg_ hnew_; (first | rw [← Ny109.out] at ho4 | (simp only [Int.reduceToNat] at ho4; rw [← Ny109.out] at ho4)); have n0_ := Aside0.mk (Kd.R_lower ho4 (below_size (by repeat (first | (with_reducible first | exact HB.out | apply below_alloc | apply pw_below_drewN | apply below_drew1) | exact HB.out)))); have n1_ := Aside0.mk (below_step (by repeat (first | (with_reducible first | exact HB.out | apply below_alloc | apply pw_below_drewN | apply below_drew1) | exact HB.out)) hb); clear HB; have HO111 := n0_; have HB := n1_; clear n0_ n1_; clear hb ho4) | ((with_reducible refine gate_callee (f := 106) rfl ?_); refine goesL_ (some 7) rfl rfl Try.func106 (by kernel_rfl) rfl #[] rfl (by (try simp only [List.map_toArray, List.map_cons, List.map_nil]); first | done | rfl | (simp only [List.length_drop, List.length_take]; rfl)) ?_; (with_reducible refine (tamisref04_All.calls  t112 _ A2.out).mono ?_); rintro e w5 ⟨v113, rfl, ho0, hb⟩; refine ⟨_, rfl, ?_⟩; have n0_ := Aside0.mk (Kd.R_below (by (with_reducible repeat (first | apply Kd.R_alloc | apply Kd.R_drewN | apply Kd.R_drew)); exact HO111.out) hb); have n1_ := Aside0.mk (Kd.R_lower ho0 (below_size (by repeat (first | (with_reducible first | exact HB.out | apply below_alloc | apply pw_below_drewN | apply below_drew1) | exact HB.out)))); have n2_ := Aside0.mk (below_step (by repeat (first | (with_reducible first | exact HB.out | apply below_alloc | apply pw_below_drewN | apply below_drew1) | exact HB.out)) hb); clear HO111; clear HB; have HO111 := n0_; have HO114 := n1_; have HB := n2_; clear n0_ n1_ n2_; (try clear hb); (try clear hb2); (try clear hk); (try clear hi); (try clear ho0)))
  go_loopg [5] k (fun kq v5 w' => ∃ (x5_1 : Int), v5 = .int .i64 x5_1 ∧ Aside0 (tamisref04_Name.l0 kq a0 y109 t112 x5_1 = some r) ∧ Aside0 (kq ≤ k) ∧ Aside0 (Kd.R Kd.string 9 w' w.heap.size (fun _ => True) v110 y109) ∧ Aside0 (Kd.R (Kd.int .u16) 35 w' w.heap.size (fun _ => True) v113 t112) ∧ Aside0 (Below w.heap.size w w'))
  case atStart => exact ⟨(0), (by first | rfl | (simp; done) | (simp [*]; done)), H', ⟨Nat.le_refl _⟩, ⟨by (with_reducible repeat (first | apply Kd.R_alloc | apply Kd.R_drewN | apply Kd.R_drew)); exact HO111.out⟩, ⟨by (with_reducible repeat (first | apply Kd.R_alloc | apply Kd.R_drewN | apply Kd.R_drew)); exact HO114.out⟩, ⟨by repeat (first | (with_reducible first | exact HB.out | apply below_alloc | apply pw_below_drewN | apply below_drew1) | exact HB.out)⟩⟩
  case round =>
    clear H'
    try clear c1
    try clear p2
    obtain ⟨x5_1, rfl, HA, HK1, HO_3, HO_4, HB⟩ := hrel
    cases gk with
    | zero => exact absurd HA.out (by simp [tamisref04_Name.l0])
    | succ k1 =>
      have H := HA.out
      clear HA
      simp only [tamisref04_Name.l0] at H
      by_cases c6 : x5_1 < (t112.length : Int)
      · rw [if_pos c6] at H
        have c6b0 : decide (x5_1 < (t112.length : Int)) = true := decide_eq_true c6
        clear c6
        by_cases c7 : 0 ≤ x5_1
        · rw [if_pos c7] at H
          have c7b0 : decide (0 ≤ x5_1) = true := decide_eq_true c7
          clear c7
          by_cases c8 : (rd t112 x5_1) = a0
          · rw [if_pos c8] at H
            have c8b0 : ((rd t112 x5_1) == a0) = true := beq_iff_eq.mpr c8
            have c8b1 : ((rd t112 x5_1) != a0) = false := bne_eq_false_iff_eq.mpr c8
            clear c8
            by_cases c9 : x5_1 < (y109.length : Int)
            · rw [if_pos c9] at H
              have c9b0 : decide (x5_1 < (y109.length : Int)) = true := decide_eq_true c9
              clear c9
              obtain rfl := Option.some.inj H
              obtain ⟨Ao10, co10, eo10⟩ := Kd.R_slice HO_4.out
              subst eo10
              have p115 : 0 ≤ (x5_1 : Int) := of_decide_eq_true (by first | (with_reducible assumption) | assumption)
              have q115 : x5_1 < (t112.length : Int) := of_decide_eq_true (by first | (with_reducible assumption) | assumption)
              obtain ⟨ad115, e115, hx115_0⟩ := Kd.at_int (Kd.R_reads' HO_4.out).2.2 x5_1 p115 q115
              cases e115
              replace p115 := eq_true p115
              replace q115 := eq_true q115
              obtain ⟨Ao11, co11, eo11⟩ := Kd.R_slice HO_3.out
              subst eo11
              have p116 : 0 ≤ (x5_1 : Int) := of_decide_eq_true (by first | (with_reducible assumption) | assumption)
              have q116 : x5_1 < (y109.length : Int) := of_decide_eq_true (by first | (with_reducible assumption) | assumption)
              obtain ⟨ad116, e116, hx116_0⟩ := Kd.at_string (Kd.R_reads' HO_3.out).2.2 x5_1 p116 q116
              cases e116
              replace p116 := eq_true p116
              replace q116 := eq_true q116
              go_wp2
              go_ret
              exact ⟨by first | rfl | (simp [errW_none, errW_some] <;> rfl) | (simp [*, errW_none, errW_some] <;> rfl), by repeat (first | (with_reducible first | exact HB.out | apply below_alloc | apply pw_below_drewN | apply below_drew1) | exact HB.out)⟩
            · rw [if_neg c9] at H
              exact absurd H (by simp)
          · rw [if_neg c8] at H
            have c8b0 : ((rd t112 x5_1) == a0) = false := beq_eq_false_iff_ne.mpr c8
            have c8b1 : ((rd t112 x5_1) != a0) = true := bne_iff_ne.mpr c8
            have H' := Aside0.mk H
            clear H
            obtain ⟨Ao12, co12, eo12⟩ := Kd.R_slice HO_4.out
            subst eo12
            have p115 : 0 ≤ (x5_1 : Int) := of_decide_eq_true (by first | (with_reducible assumption) | assumption)
            have q115 : x5_1 < (t112.length : Int) := of_decide_eq_true (by first | (with_reducible assumption) | assumption)
            obtain ⟨ad115, e115, hx115_0⟩ := Kd.at_int (Kd.R_reads' HO_4.out).2.2 x5_1 p115 q115
            cases e115
            replace p115 := eq_true p115
            replace q115 := eq_true q115
            go_wp2
            go_roundg k1
            case measure => have := HK1.out; omega
            case rel => exact ⟨(wrap64 (x5_1 + 1)), (by first | rfl | (simp; done) | (simp [*]; done)), H', ⟨by have := HK1.out; omega⟩, ⟨by (with_reducible repeat (first | apply Kd.R_alloc | apply Kd.R_drewN | apply Kd.R_drew)); exact HO_3.out⟩, ⟨by (with_reducible repeat (first | apply Kd.R_alloc | apply Kd.R_drewN | apply Kd.R_drew)); exact HO_4.out⟩, ⟨by repeat (first | (with_reducible first | exact HB.out | apply below_alloc | apply pw_below_drewN | apply below_drew1) | exact HB.out)⟩⟩
        · rw [if_neg c7] at H
          exact absurd H (by simp)
      · rw [if_neg c6] at H
        have c6b0 : decide (x5_1 < (t112.length : Int)) = false := decide_eq_false c6
        clear c6
        obtain rfl := Option.some.inj H
        obtain ⟨Ao13, co13, eo13⟩ := Kd.R_slice HO_4.out
        subst eo13
        go_wp2
        go_ret
        exact ⟨by first | rfl | (simp [errW_none, errW_some] <;> rfl) | (simp [*, errW_none, errW_some] <;> rfl), by repeat (first | (with_reducible first | exact HB.out | apply below_alloc | apply pw_below_drewN | apply below_drew1) | exact HB.out)⟩

/-! ### tamisref04_Kind: function 45 -/
def tamisref04_Kind.f (k : Nat) (a0 : Int) : Option (Int) := (tamisref04_Name.f k a0).bind fun t117 => (if t117.toList = ([] : List UInt8) then (some 0) else (if a0 = 32 then (some 1) else (if a0 = 128 then (some 2) else (if a0 = 0 then (some 3) else (if a0 = 96 then (some 4) else (if a0 = 1 then (some 5) else (if a0 = 97 then (some 6) else (if a0 = 129 then (some 7) else (if a0 = 2 then (some 8) else (if a0 = 3 then (some 9) else (if a0 = 5 then (some 11) else (if a0 = 6 then (some 13) else (if a0 = 22 then (some 14) else (if a0 = 7 then (some 15) else (if a0 = 135 then (some 16) else (if (Int.tmod a0 8) = 4 then (some 10) else (some 12)))))))))))))))))
theorem tamisref04_Kind.mono : ∀ a0 k, LeO (tamisref04_Kind.f k a0) (tamisref04_Kind.f (k + 1) a0) := by
  intro a0 k
  unfold tamisref04_Kind.f
  repeat' first
      | (with_reducible exact tamisref04_Name.mono _ _)
      | (with_reducible exact LeO.refl _)
      | (with_reducible exact LeO.none _)
      | (with_reducible refine LeO.ite ?_ ?_)
      | (with_reducible refine LeO.bind ?_ (fun _ => ?_))
      | exact tamisref04_Name.mono _ _
      | exact LeO.none _
      | refine LeO.ite ?_ ?_
      | refine LeO.bind ?_ (fun _ => ?_)
set_option maxHeartbeats 8000000 in
set_option maxRecDepth 100000 in
theorem tamisref04_Kind.calls (k : Nat) (a0 : Int) (r : Int) (w : World) (h : tamisref04_Kind.f k a0 = some r) :
    Calls Try.prog 45 #[.int .u16 a0] w fun e w' => e = .returned (.int .i64 r) ∧ Below w.heap.size w w' := by
  have HB := Aside0.mk (Below.refl w.heap.size w)
  have H : ((tamisref04_Name.f k a0).bind fun t117 => (if t117.toList = ([] : List UInt8) then (some 0) else (if a0 = 32 then (some 1) else (if a0 = 128 then (some 2) else (if a0 = 0 then (some 3) else (if a0 = 96 then (some 4) else (if a0 = 1 then (some 5) else (if a0 = 97 then (some 6) else (if a0 = 129 then (some 7) else (if a0 = 2 then (some 8) else (if a0 = 3 then (some 9) else (if a0 = 5 then (some 11) else (if a0 = 6 then (some 13) else (if a0 = 22 then (some 14) else (if a0 = 7 then (some 15) else (if a0 = 135 then (some 16) else (if (Int.tmod a0 8) = 4 then (some 10) else (some 12)))))))))))))))))) = some r := h
  clear h
  replace H := Option.bind_eq_some_iff.mp H
  obtain ⟨t117, A20, H⟩ := H
  replace H : (if t117.toList = ([] : List UInt8) then (some 0) else (if a0 = 32 then (some 1) else (if a0 = 128 then (some 2) else (if a0 = 0 then (some 3) else (if a0 = 96 then (some 4) else (if a0 = 1 then (some 5) else (if a0 = 97 then (some 6) else (if a0 = 129 then (some 7) else (if a0 = 2 then (some 8) else (if a0 = 3 then (some 9) else (if a0 = 5 then (some 11) else (if a0 = 6 then (some 13) else (if a0 = 22 then (some 14) else (if a0 = 7 then (some 15) else (if a0 = 135 then (some 16) else (if (Int.tmod a0 8) = 4 then (some 10) else (some 12))))))))))))))))) = some r := H
  have A2 := Aside0.mk A20
  clear A20
  by_cases c3 : t117.toList = ([] : List UInt8)
  · rw [if_pos c3] at H
    have c3b0 : (t117.toList == ([] : List UInt8)) = true := beq_iff_eq.mpr c3
    have c3b1 : (t117.toList != ([] : List UInt8)) = false := bne_eq_false_iff_eq.mpr c3
    clear c3
    obtain rfl := Option.some.inj H
    go_enter Try.func45, Try.ntmps45
    go_wp2_with (first | ((with_reducible refine gate_callee (f := 84) rfl ?_); refine goesL_ (some 4) rfl rfl Try.func84 (by kernel_rfl) rfl #[.int .u16 a0] rfl (by (try simp only [List.map_toArray, List.map_cons, List.map_nil]); first | done | rfl | (simp only [List.length_drop, List.length_take]; rfl)) ?_; (with_reducible refine (tamisref04_Name.calls k a0 t117 _ A2.out).mono ?_); rintro e w4 ⟨rfl, hb⟩; refine ⟨_, rfl, ?_⟩; have n0_ := Aside0.mk (below_step (by repeat (first | (with_reducible first | exact HB.out | apply below_alloc | apply pw_below_drewN | apply below_drew1) | exact HB.out)) hb); clear HB; have HB := n0_; clear n0_; (try clear hb); (try clear hb2); (try clear hk); (try clear hi)))
    go_ret
    exact ⟨by first | rfl | (simp [errW_none, errW_some] <;> rfl) | (simp [*, errW_none, errW_some] <;> rfl), by repeat (first | (with_reducible first | exact HB.out | apply below_alloc | apply pw_below_drewN | apply below_drew1) | exact HB.out)⟩
  · rw [if_neg c3] at H
    have c3b0 : (t117.toList == ([] : List UInt8)) = false := beq_eq_false_iff_ne.mpr c3
    have c3b1 : (t117.toList != ([] : List UInt8)) = true := bne_iff_ne.mpr c3
    by_cases c5 : a0 = 32
    · rw [if_pos c5] at H
      have c5b0 : (a0 == 32) = true := beq_iff_eq.mpr c5
      have c5b1 : (a0 != 32) = false := bne_eq_false_iff_eq.mpr c5
      clear c5
      obtain rfl := Option.some.inj H
      go_enter Try.func45, Try.ntmps45
      go_wp2_with (first | ((with_reducible refine gate_callee (f := 84) rfl ?_); refine goesL_ (some 4) rfl rfl Try.func84 (by kernel_rfl) rfl #[.int .u16 a0] rfl (by (try simp only [List.map_toArray, List.map_cons, List.map_nil]); first | done | rfl | (simp only [List.length_drop, List.length_take]; rfl)) ?_; (with_reducible refine (tamisref04_Name.calls k a0 t117 _ A2.out).mono ?_); rintro e w6 ⟨rfl, hb⟩; refine ⟨_, rfl, ?_⟩; have n0_ := Aside0.mk (below_step (by repeat (first | (with_reducible first | exact HB.out | apply below_alloc | apply pw_below_drewN | apply below_drew1) | exact HB.out)) hb); clear HB; have HB := n0_; clear n0_; (try clear hb); (try clear hb2); (try clear hk); (try clear hi)))
      go_ret
      exact ⟨by first | rfl | (simp [errW_none, errW_some] <;> rfl) | (simp [*, errW_none, errW_some] <;> rfl), by repeat (first | (with_reducible first | exact HB.out | apply below_alloc | apply pw_below_drewN | apply below_drew1) | exact HB.out)⟩
    · rw [if_neg c5] at H
      have c5b0 : (a0 == 32) = false := beq_eq_false_iff_ne.mpr c5
      have c5b1 : (a0 != 32) = true := bne_iff_ne.mpr c5
      by_cases c7 : a0 = 128
      · rw [if_pos c7] at H
        have c7b0 : (a0 == 128) = true := beq_iff_eq.mpr c7
        have c7b1 : (a0 != 128) = false := bne_eq_false_iff_eq.mpr c7
        clear c7
        obtain rfl := Option.some.inj H
        go_enter Try.func45, Try.ntmps45
        go_wp2_with (first | ((with_reducible refine gate_callee (f := 84) rfl ?_); refine goesL_ (some 4) rfl rfl Try.func84 (by kernel_rfl) rfl #[.int .u16 a0] rfl (by (try simp only [List.map_toArray, List.map_cons, List.map_nil]); first | done | rfl | (simp only [List.length_drop, List.length_take]; rfl)) ?_; (with_reducible refine (tamisref04_Name.calls k a0 t117 _ A2.out).mono ?_); rintro e w8 ⟨rfl, hb⟩; refine ⟨_, rfl, ?_⟩; have n0_ := Aside0.mk (below_step (by repeat (first | (with_reducible first | exact HB.out | apply below_alloc | apply pw_below_drewN | apply below_drew1) | exact HB.out)) hb); clear HB; have HB := n0_; clear n0_; (try clear hb); (try clear hb2); (try clear hk); (try clear hi)))
        go_ret
        exact ⟨by first | rfl | (simp [errW_none, errW_some] <;> rfl) | (simp [*, errW_none, errW_some] <;> rfl), by repeat (first | (with_reducible first | exact HB.out | apply below_alloc | apply pw_below_drewN | apply below_drew1) | exact HB.out)⟩
      · rw [if_neg c7] at H
        have c7b0 : (a0 == 128) = false := beq_eq_false_iff_ne.mpr c7
        have c7b1 : (a0 != 128) = true := bne_iff_ne.mpr c7
        by_cases c9 : a0 = 0
        · rw [if_pos c9] at H
          have c9b0 : (a0 == 0) = true := beq_iff_eq.mpr c9
          have c9b1 : (a0 != 0) = false := bne_eq_false_iff_eq.mpr c9
          clear c9
          obtain rfl := Option.some.inj H
          go_enter Try.func45, Try.ntmps45
          go_wp2_with (first | ((with_reducible refine gate_callee (f := 84) rfl ?_); refine goesL_ (some 4) rfl rfl Try.func84 (by kernel_rfl) rfl #[.int .u16 a0] rfl (by (try simp only [List.map_toArray, List.map_cons, List.map_nil]); first | done | rfl | (simp only [List.length_drop, List.length_take]; rfl)) ?_; (with_reducible refine (tamisref04_Name.calls k a0 t117 _ A2.out).mono ?_); rintro e w10 ⟨rfl, hb⟩; refine ⟨_, rfl, ?_⟩; have n0_ := Aside0.mk (below_step (by repeat (first | (with_reducible first | exact HB.out | apply below_alloc | apply pw_below_drewN | apply below_drew1) | exact HB.out)) hb); clear HB; have HB := n0_; clear n0_; (try clear hb); (try clear hb2); (try clear hk); (try clear hi)))
          go_ret
          exact ⟨by first | rfl | (simp [errW_none, errW_some] <;> rfl) | (simp [*, errW_none, errW_some] <;> rfl), by repeat (first | (with_reducible first | exact HB.out | apply below_alloc | apply pw_below_drewN | apply below_drew1) | exact HB.out)⟩
        · rw [if_neg c9] at H
          have c9b0 : (a0 == 0) = false := beq_eq_false_iff_ne.mpr c9
          have c9b1 : (a0 != 0) = true := bne_iff_ne.mpr c9
          by_cases c11 : a0 = 96
          · rw [if_pos c11] at H
            have c11b0 : (a0 == 96) = true := beq_iff_eq.mpr c11
            have c11b1 : (a0 != 96) = false := bne_eq_false_iff_eq.mpr c11
            clear c11
            obtain rfl := Option.some.inj H
            go_enter Try.func45, Try.ntmps45
            go_wp2_with (first | ((with_reducible refine gate_callee (f := 84) rfl ?_); refine goesL_ (some 4) rfl rfl Try.func84 (by kernel_rfl) rfl #[.int .u16 a0] rfl (by (try simp only [List.map_toArray, List.map_cons, List.map_nil]); first | done | rfl | (simp only [List.length_drop, List.length_take]; rfl)) ?_; (with_reducible refine (tamisref04_Name.calls k a0 t117 _ A2.out).mono ?_); rintro e w12 ⟨rfl, hb⟩; refine ⟨_, rfl, ?_⟩; have n0_ := Aside0.mk (below_step (by repeat (first | (with_reducible first | exact HB.out | apply below_alloc | apply pw_below_drewN | apply below_drew1) | exact HB.out)) hb); clear HB; have HB := n0_; clear n0_; (try clear hb); (try clear hb2); (try clear hk); (try clear hi)))
            go_ret
            exact ⟨by first | rfl | (simp [errW_none, errW_some] <;> rfl) | (simp [*, errW_none, errW_some] <;> rfl), by repeat (first | (with_reducible first | exact HB.out | apply below_alloc | apply pw_below_drewN | apply below_drew1) | exact HB.out)⟩
          · rw [if_neg c11] at H
            have c11b0 : (a0 == 96) = false := beq_eq_false_iff_ne.mpr c11
            have c11b1 : (a0 != 96) = true := bne_iff_ne.mpr c11
            by_cases c13 : a0 = 1
            · rw [if_pos c13] at H
              have c13b0 : (a0 == 1) = true := beq_iff_eq.mpr c13
              have c13b1 : (a0 != 1) = false := bne_eq_false_iff_eq.mpr c13
              clear c13
              obtain rfl := Option.some.inj H
              go_enter Try.func45, Try.ntmps45
              go_wp2_with (first | ((with_reducible refine gate_callee (f := 84) rfl ?_); refine goesL_ (some 4) rfl rfl Try.func84 (by kernel_rfl) rfl #[.int .u16 a0] rfl (by (try simp only [List.map_toArray, List.map_cons, List.map_nil]); first | done | rfl | (simp only [List.length_drop, List.length_take]; rfl)) ?_; (with_reducible refine (tamisref04_Name.calls k a0 t117 _ A2.out).mono ?_); rintro e w14 ⟨rfl, hb⟩; refine ⟨_, rfl, ?_⟩; have n0_ := Aside0.mk (below_step (by repeat (first | (with_reducible first | exact HB.out | apply below_alloc | apply pw_below_drewN | apply below_drew1) | exact HB.out)) hb); clear HB; have HB := n0_; clear n0_; (try clear hb); (try clear hb2); (try clear hk); (try clear hi)))
              go_ret
              exact ⟨by first | rfl | (simp [errW_none, errW_some] <;> rfl) | (simp [*, errW_none, errW_some] <;> rfl), by repeat (first | (with_reducible first | exact HB.out | apply below_alloc | apply pw_below_drewN | apply below_drew1) | exact HB.out)⟩
            · rw [if_neg c13] at H
              have c13b0 : (a0 == 1) = false := beq_eq_false_iff_ne.mpr c13
              have c13b1 : (a0 != 1) = true := bne_iff_ne.mpr c13
              by_cases c15 : a0 = 97
              · rw [if_pos c15] at H
                have c15b0 : (a0 == 97) = true := beq_iff_eq.mpr c15
                have c15b1 : (a0 != 97) = false := bne_eq_false_iff_eq.mpr c15
                clear c15
                obtain rfl := Option.some.inj H
                go_enter Try.func45, Try.ntmps45
                go_wp2_with (first | ((with_reducible refine gate_callee (f := 84) rfl ?_); refine goesL_ (some 4) rfl rfl Try.func84 (by kernel_rfl) rfl #[.int .u16 a0] rfl (by (try simp only [List.map_toArray, List.map_cons, List.map_nil]); first | done | rfl | (simp only [List.length_drop, List.length_take]; rfl)) ?_; (with_reducible refine (tamisref04_Name.calls k a0 t117 _ A2.out).mono ?_); rintro e w16 ⟨rfl, hb⟩; refine ⟨_, rfl, ?_⟩; have n0_ := Aside0.mk (below_step (by repeat (first | (with_reducible first | exact HB.out | apply below_alloc | apply pw_below_drewN | apply below_drew1) | exact HB.out)) hb); clear HB; have HB := n0_; clear n0_; (try clear hb); (try clear hb2); (try clear hk); (try clear hi)))
                go_ret
                exact ⟨by first | rfl | (simp [errW_none, errW_some] <;> rfl) | (simp [*, errW_none, errW_some] <;> rfl), by repeat (first | (with_reducible first | exact HB.out | apply below_alloc | apply pw_below_drewN | apply below_drew1) | exact HB.out)⟩
              · rw [if_neg c15] at H
                have c15b0 : (a0 == 97) = false := beq_eq_false_iff_ne.mpr c15
                have c15b1 : (a0 != 97) = true := bne_iff_ne.mpr c15
                by_cases c17 : a0 = 129
                · rw [if_pos c17] at H
                  have c17b0 : (a0 == 129) = true := beq_iff_eq.mpr c17
                  have c17b1 : (a0 != 129) = false := bne_eq_false_iff_eq.mpr c17
                  clear c17
                  obtain rfl := Option.some.inj H
                  go_enter Try.func45, Try.ntmps45
                  go_wp2_with (first | ((with_reducible refine gate_callee (f := 84) rfl ?_); refine goesL_ (some 4) rfl rfl Try.func84 (by kernel_rfl) rfl #[.int .u16 a0] rfl (by (try simp only [List.map_toArray, List.map_cons, List.map_nil]); first | done | rfl | (simp only [List.length_drop, List.length_take]; rfl)) ?_; (with_reducible refine (tamisref04_Name.calls k a0 t117 _ A2.out).mono ?_); rintro e w18 ⟨rfl, hb⟩; refine ⟨_, rfl, ?_⟩; have n0_ := Aside0.mk (below_step (by repeat (first | (with_reducible first | exact HB.out | apply below_alloc | apply pw_below_drewN | apply below_drew1) | exact HB.out)) hb); clear HB; have HB := n0_; clear n0_; (try clear hb); (try clear hb2); (try clear hk); (try clear hi)))
                  go_ret
                  exact ⟨by first | rfl | (simp [errW_none, errW_some] <;> rfl) | (simp [*, errW_none, errW_some] <;> rfl), by repeat (first | (with_reducible first | exact HB.out | apply below_alloc | apply pw_below_drewN | apply below_drew1) | exact HB.out)⟩
                · rw [if_neg c17] at H
                  have c17b0 : (a0 == 129) = false := beq_eq_false_iff_ne.mpr c17
                  have c17b1 : (a0 != 129) = true := bne_iff_ne.mpr c17
                  by_cases c19 : a0 = 2
                  · rw [if_pos c19] at H
                    have c19b0 : (a0 == 2) = true := beq_iff_eq.mpr c19
                    have c19b1 : (a0 != 2) = false := bne_eq_false_iff_eq.mpr c19
                    clear c19
                    obtain rfl := Option.some.inj H
                    go_enter Try.func45, Try.ntmps45
                    go_wp2_with (first | ((with_reducible refine gate_callee (f := 84) rfl ?_); refine goesL_ (some 4) rfl rfl Try.func84 (by kernel_rfl) rfl #[.int .u16 a0] rfl (by (try simp only [List.map_toArray, List.map_cons, List.map_nil]); first | done | rfl | (simp only [List.length_drop, List.length_take]; rfl)) ?_; (with_reducible refine (tamisref04_Name.calls k a0 t117 _ A2.out).mono ?_); rintro e w20 ⟨rfl, hb⟩; refine ⟨_, rfl, ?_⟩; have n0_ := Aside0.mk (below_step (by repeat (first | (with_reducible first | exact HB.out | apply below_alloc | apply pw_below_drewN | apply below_drew1) | exact HB.out)) hb); clear HB; have HB := n0_; clear n0_; (try clear hb); (try clear hb2); (try clear hk); (try clear hi)))
                    go_ret
                    exact ⟨by first | rfl | (simp [errW_none, errW_some] <;> rfl) | (simp [*, errW_none, errW_some] <;> rfl), by repeat (first | (with_reducible first | exact HB.out | apply below_alloc | apply pw_below_drewN | apply below_drew1) | exact HB.out)⟩
                  · rw [if_neg c19] at H
                    have c19b0 : (a0 == 2) = false := beq_eq_false_iff_ne.mpr c19
                    have c19b1 : (a0 != 2) = true := bne_iff_ne.mpr c19
                    by_cases c21 : a0 = 3
                    · rw [if_pos c21] at H
                      have c21b0 : (a0 == 3) = true := beq_iff_eq.mpr c21
                      have c21b1 : (a0 != 3) = false := bne_eq_false_iff_eq.mpr c21
                      clear c21
                      obtain rfl := Option.some.inj H
                      go_enter Try.func45, Try.ntmps45
                      go_wp2_with (first | ((with_reducible refine gate_callee (f := 84) rfl ?_); refine goesL_ (some 4) rfl rfl Try.func84 (by kernel_rfl) rfl #[.int .u16 a0] rfl (by (try simp only [List.map_toArray, List.map_cons, List.map_nil]); first | done | rfl | (simp only [List.length_drop, List.length_take]; rfl)) ?_; (with_reducible refine (tamisref04_Name.calls k a0 t117 _ A2.out).mono ?_); rintro e w22 ⟨rfl, hb⟩; refine ⟨_, rfl, ?_⟩; have n0_ := Aside0.mk (below_step (by repeat (first | (with_reducible first | exact HB.out | apply below_alloc | apply pw_below_drewN | apply below_drew1) | exact HB.out)) hb); clear HB; have HB := n0_; clear n0_; (try clear hb); (try clear hb2); (try clear hk); (try clear hi)))
                      go_ret
                      exact ⟨by first | rfl | (simp [errW_none, errW_some] <;> rfl) | (simp [*, errW_none, errW_some] <;> rfl), by repeat (first | (with_reducible first | exact HB.out | apply below_alloc | apply pw_below_drewN | apply below_drew1) | exact HB.out)⟩
                    · rw [if_neg c21] at H
                      have c21b0 : (a0 == 3) = false := beq_eq_false_iff_ne.mpr c21
                      have c21b1 : (a0 != 3) = true := bne_iff_ne.mpr c21
                      by_cases c23 : a0 = 5
                      · rw [if_pos c23] at H
                        have c23b0 : (a0 == 5) = true := beq_iff_eq.mpr c23
                        have c23b1 : (a0 != 5) = false := bne_eq_false_iff_eq.mpr c23
                        clear c23
                        obtain rfl := Option.some.inj H
                        go_enter Try.func45, Try.ntmps45
                        go_wp2_with (first | ((with_reducible refine gate_callee (f := 84) rfl ?_); refine goesL_ (some 4) rfl rfl Try.func84 (by kernel_rfl) rfl #[.int .u16 a0] rfl (by (try simp only [List.map_toArray, List.map_cons, List.map_nil]); first | done | rfl | (simp only [List.length_drop, List.length_take]; rfl)) ?_; (with_reducible refine (tamisref04_Name.calls k a0 t117 _ A2.out).mono ?_); rintro e w24 ⟨rfl, hb⟩; refine ⟨_, rfl, ?_⟩; have n0_ := Aside0.mk (below_step (by repeat (first | (with_reducible first | exact HB.out | apply below_alloc | apply pw_below_drewN | apply below_drew1) | exact HB.out)) hb); clear HB; have HB := n0_; clear n0_; (try clear hb); (try clear hb2); (try clear hk); (try clear hi)))
                        go_ret
                        exact ⟨by first | rfl | (simp [errW_none, errW_some] <;> rfl) | (simp [*, errW_none, errW_some] <;> rfl), by repeat (first | (with_reducible first | exact HB.out | apply below_alloc | apply pw_below_drewN | apply below_drew1) | exact HB.out)⟩
                      · rw [if_neg c23] at H
                        have c23b0 : (a0 == 5) = false := beq_eq_false_iff_ne.mpr c23
                        have c23b1 : (a0 != 5) = true := bne_iff_ne.mpr c23
                        by_cases c25 : a0 = 6
                        · rw [if_pos c25] at H
                          have c25b0 : (a0 == 6) = true := beq_iff_eq.mpr c25
                          have c25b1 : (a0 != 6) = false := bne_eq_false_iff_eq.mpr c25
                          clear c25
                          obtain rfl := Option.some.inj H
                          go_enter Try.func45, Try.ntmps45
                          go_wp2_with (first | ((with_reducible refine gate_callee (f := 84) rfl ?_); refine goesL_ (some 4) rfl rfl Try.func84 (by kernel_rfl) rfl #[.int .u16 a0] rfl (by (try simp only [List.map_toArray, List.map_cons, List.map_nil]); first | done | rfl | (simp only [List.length_drop, List.length_take]; rfl)) ?_; (with_reducible refine (tamisref04_Name.calls k a0 t117 _ A2.out).mono ?_); rintro e w26 ⟨rfl, hb⟩; refine ⟨_, rfl, ?_⟩; have n0_ := Aside0.mk (below_step (by repeat (first | (with_reducible first | exact HB.out | apply below_alloc | apply pw_below_drewN | apply below_drew1) | exact HB.out)) hb); clear HB; have HB := n0_; clear n0_; (try clear hb); (try clear hb2); (try clear hk); (try clear hi)))
                          go_ret
                          exact ⟨by first | rfl | (simp [errW_none, errW_some] <;> rfl) | (simp [*, errW_none, errW_some] <;> rfl), by repeat (first | (with_reducible first | exact HB.out | apply below_alloc | apply pw_below_drewN | apply below_drew1) | exact HB.out)⟩
                        · rw [if_neg c25] at H
                          have c25b0 : (a0 == 6) = false := beq_eq_false_iff_ne.mpr c25
                          have c25b1 : (a0 != 6) = true := bne_iff_ne.mpr c25
                          by_cases c27 : a0 = 22
                          · rw [if_pos c27] at H
                            have c27b0 : (a0 == 22) = true := beq_iff_eq.mpr c27
                            have c27b1 : (a0 != 22) = false := bne_eq_false_iff_eq.mpr c27
                            clear c27
                            obtain rfl := Option.some.inj H
                            go_enter Try.func45, Try.ntmps45
                            go_wp2_with (first | ((with_reducible refine gate_callee (f := 84) rfl ?_); refine goesL_ (some 4) rfl rfl Try.func84 (by kernel_rfl) rfl #[.int .u16 a0] rfl (by (try simp only [List.map_toArray, List.map_cons, List.map_nil]); first | done | rfl | (simp only [List.length_drop, List.length_take]; rfl)) ?_; (with_reducible refine (tamisref04_Name.calls k a0 t117 _ A2.out).mono ?_); rintro e w28 ⟨rfl, hb⟩; refine ⟨_, rfl, ?_⟩; have n0_ := Aside0.mk (below_step (by repeat (first | (with_reducible first | exact HB.out | apply below_alloc | apply pw_below_drewN | apply below_drew1) | exact HB.out)) hb); clear HB; have HB := n0_; clear n0_; (try clear hb); (try clear hb2); (try clear hk); (try clear hi)))
                            go_ret
                            exact ⟨by first | rfl | (simp [errW_none, errW_some] <;> rfl) | (simp [*, errW_none, errW_some] <;> rfl), by repeat (first | (with_reducible first | exact HB.out | apply below_alloc | apply pw_below_drewN | apply below_drew1) | exact HB.out)⟩
                          · rw [if_neg c27] at H
                            have c27b0 : (a0 == 22) = false := beq_eq_false_iff_ne.mpr c27
                            have c27b1 : (a0 != 22) = true := bne_iff_ne.mpr c27
                            by_cases c29 : a0 = 7
                            · rw [if_pos c29] at H
                              have c29b0 : (a0 == 7) = true := beq_iff_eq.mpr c29
                              have c29b1 : (a0 != 7) = false := bne_eq_false_iff_eq.mpr c29
                              clear c29
                              obtain rfl := Option.some.inj H
                              go_enter Try.func45, Try.ntmps45
                              go_wp2_with (first | ((with_reducible refine gate_callee (f := 84) rfl ?_); refine goesL_ (some 4) rfl rfl Try.func84 (by kernel_rfl) rfl #[.int .u16 a0] rfl (by (try simp only [List.map_toArray, List.map_cons, List.map_nil]); first | done | rfl | (simp only [List.length_drop, List.length_take]; rfl)) ?_; (with_reducible refine (tamisref04_Name.calls k a0 t117 _ A2.out).mono ?_); rintro e w30 ⟨rfl, hb⟩; refine ⟨_, rfl, ?_⟩; have n0_ := Aside0.mk (below_step (by repeat (first | (with_reducible first | exact HB.out | apply below_alloc | apply pw_below_drewN | apply below_drew1) | exact HB.out)) hb); clear HB; have HB := n0_; clear n0_; (try clear hb); (try clear hb2); (try clear hk); (try clear hi)))
                              go_ret
                              exact ⟨by first | rfl | (simp [errW_none, errW_some] <;> rfl) | (simp [*, errW_none, errW_some] <;> rfl), by repeat (first | (with_reducible first | exact HB.out | apply below_alloc | apply pw_below_drewN | apply below_drew1) | exact HB.out)⟩
                            · rw [if_neg c29] at H
                              have c29b0 : (a0 == 7) = false := beq_eq_false_iff_ne.mpr c29
                              have c29b1 : (a0 != 7) = true := bne_iff_ne.mpr c29
                              by_cases c31 : a0 = 135
                              · rw [if_pos c31] at H
                                have c31b0 : (a0 == 135) = true := beq_iff_eq.mpr c31
                                have c31b1 : (a0 != 135) = false := bne_eq_false_iff_eq.mpr c31
                                clear c31
                                obtain rfl := Option.some.inj H
                                go_enter Try.func45, Try.ntmps45
                                go_wp2_with (first | ((with_reducible refine gate_callee (f := 84) rfl ?_); refine goesL_ (some 4) rfl rfl Try.func84 (by kernel_rfl) rfl #[.int .u16 a0] rfl (by (try simp only [List.map_toArray, List.map_cons, List.map_nil]); first | done | rfl | (simp only [List.length_drop, List.length_take]; rfl)) ?_; (with_reducible refine (tamisref04_Name.calls k a0 t117 _ A2.out).mono ?_); rintro e w32 ⟨rfl, hb⟩; refine ⟨_, rfl, ?_⟩; have n0_ := Aside0.mk (below_step (by repeat (first | (with_reducible first | exact HB.out | apply below_alloc | apply pw_below_drewN | apply below_drew1) | exact HB.out)) hb); clear HB; have HB := n0_; clear n0_; (try clear hb); (try clear hb2); (try clear hk); (try clear hi)))
                                go_ret
                                exact ⟨by first | rfl | (simp [errW_none, errW_some] <;> rfl) | (simp [*, errW_none, errW_some] <;> rfl), by repeat (first | (with_reducible first | exact HB.out | apply below_alloc | apply pw_below_drewN | apply below_drew1) | exact HB.out)⟩
                              · rw [if_neg c31] at H
                                have c31b0 : (a0 == 135) = false := beq_eq_false_iff_ne.mpr c31
                                have c31b1 : (a0 != 135) = true := bne_iff_ne.mpr c31
                                by_cases c33 : (Int.tmod a0 8) = 4
                                · rw [if_pos c33] at H
                                  have c33b0 : ((Int.tmod a0 8) == 4) = true := beq_iff_eq.mpr c33
                                  have c33b1 : ((Int.tmod a0 8) != 4) = false := bne_eq_false_iff_eq.mpr c33
                                  clear c33
                                  obtain rfl := Option.some.inj H
                                  go_enter Try.func45, Try.ntmps45
                                  go_wp2_with (first | ((with_reducible refine gate_callee (f := 84) rfl ?_); refine goesL_ (some 4) rfl rfl Try.func84 (by kernel_rfl) rfl #[.int .u16 a0] rfl (by (try simp only [List.map_toArray, List.map_cons, List.map_nil]); first | done | rfl | (simp only [List.length_drop, List.length_take]; rfl)) ?_; (with_reducible refine (tamisref04_Name.calls k a0 t117 _ A2.out).mono ?_); rintro e w34 ⟨rfl, hb⟩; refine ⟨_, rfl, ?_⟩; have n0_ := Aside0.mk (below_step (by repeat (first | (with_reducible first | exact HB.out | apply below_alloc | apply pw_below_drewN | apply below_drew1) | exact HB.out)) hb); clear HB; have HB := n0_; clear n0_; (try clear hb); (try clear hb2); (try clear hk); (try clear hi)))
                                  go_ret
                                  exact ⟨by first | rfl | (simp [errW_none, errW_some] <;> rfl) | (simp [*, errW_none, errW_some] <;> rfl), by repeat (first | (with_reducible first | exact HB.out | apply below_alloc | apply pw_below_drewN | apply below_drew1) | exact HB.out)⟩
                                · rw [if_neg c33] at H
                                  have c33b0 : ((Int.tmod a0 8) == 4) = false := beq_eq_false_iff_ne.mpr c33
                                  have c33b1 : ((Int.tmod a0 8) != 4) = true := bne_iff_ne.mpr c33
                                  obtain rfl := Option.some.inj H
                                  go_enter Try.func45, Try.ntmps45
                                  go_wp2_with (first | ((with_reducible refine gate_callee (f := 84) rfl ?_); refine goesL_ (some 4) rfl rfl Try.func84 (by kernel_rfl) rfl #[.int .u16 a0] rfl (by (try simp only [List.map_toArray, List.map_cons, List.map_nil]); first | done | rfl | (simp only [List.length_drop, List.length_take]; rfl)) ?_; (with_reducible refine (tamisref04_Name.calls k a0 t117 _ A2.out).mono ?_); rintro e w35 ⟨rfl, hb⟩; refine ⟨_, rfl, ?_⟩; have n0_ := Aside0.mk (below_step (by repeat (first | (with_reducible first | exact HB.out | apply below_alloc | apply pw_below_drewN | apply below_drew1) | exact HB.out)) hb); clear HB; have HB := n0_; clear n0_; (try clear hb); (try clear hb2); (try clear hk); (try clear hi)))
                                  go_ret
                                  exact ⟨by first | rfl | (simp [errW_none, errW_some] <;> rfl) | (simp [*, errW_none, errW_some] <;> rfl), by repeat (first | (with_reducible first | exact HB.out | apply below_alloc | apply pw_below_drewN | apply below_drew1) | exact HB.out)⟩

/-! ### tamisref23_Marked: function 58 -/
def tamisref23_Marked.l0 : Nat → List (S38) → Int → Int → Option (Int)
  | 0, _, _, _ => none
  | k + 1, x0, x1, x7 => if x7 < (x0.length : Int) then (if 0 ≤ x7 then (if ((rd_T38 x0 x7).f0) = 4 then (if ((rd_T38 x0 x7).f3) = x1 then (some x7) else (tamisref23_Marked.l0 k x0 x1 (wrap64 (x7 + 1)))) else (tamisref23_Marked.l0 k x0 x1 (wrap64 (x7 + 1)))) else (none)) else (some (-1))
def tamisref23_Marked.f (k : Nat) (l0 : List (S38)) (a1 : Int) (a2 : Int) : Option (Int) := tamisref23_Marked.l0 k l0 a1 a2
theorem tamisref23_Marked.mono_l : ∀ k, (∀ y0 y1 y2, LeO (tamisref23_Marked.l0 k y0 y1 y2) (tamisref23_Marked.l0 (k + 1) y0 y1 y2))
  | 0 => fun _ _ _ r h => by simp [tamisref23_Marked.l0] at h
  | k + 1 => by
    have ih0 := tamisref23_Marked.mono_l k
    · intro y0 y1 y2
      unfold tamisref23_Marked.l0
      repeat' first
      | (with_reducible exact ih0 _ _ _)
      | (with_reducible exact LeO.refl _)
      | (with_reducible exact LeO.none _)
      | (with_reducible refine LeO.ite ?_ ?_)
      | (with_reducible refine LeO.bind ?_ (fun _ => ?_))
      | exact ih0 _ _ _
      | exact LeO.none _
      | refine LeO.ite ?_ ?_
      | refine LeO.bind ?_ (fun _ => ?_)
theorem tamisref23_Marked.mono : ∀ a0 a1 a2 k, LeO (tamisref23_Marked.f k a0 a1 a2) (tamisref23_Marked.f (k + 1) a0 a1 a2) := by
  intro a0 a1 a2 k
  have ih0 := tamisref23_Marked.mono_l k
  unfold tamisref23_Marked.f
  repeat' first
      | (with_reducible exact ih0 _ _ _)
      | (with_reducible exact LeO.refl _)
      | (with_reducible exact LeO.none _)
      | (with_reducible refine LeO.ite ?_ ?_)
      | (with_reducible refine LeO.bind ?_ (fun _ => ?_))
      | exact ih0 _ _ _
      | exact LeO.none _
      | refine LeO.ite ?_ ?_
      | refine LeO.bind ?_ (fun _ => ?_)
set_option maxHeartbeats 8000000 in
set_option maxRecDepth 100000 in
theorem tamisref23_Marked.calls (k : Nat) (A0 : Option Addr) (c0 : Nat) (l0 : List (S38)) (a1 : Int) (a2 : Int) (r : Int) (w : World) (hr0 : Kd.C k38 w A0 l0.length l0) (hc0 : l0.length ≤ c0) (h : tamisref23_Marked.f k l0 a1 a2 = some r) :
    Calls Try.prog 58 #[.slice A0 l0.length c0, .int .i64 a1, .int .i64 a2] w fun e w' => e = .returned (.int .i64 r) ∧ Drawn0 w w' := by
  have HR0 := Aside0.mk hr0
  have HC0 := Aside0.mk hc0
  clear hr0 hc0
  have H : (tamisref23_Marked.l0 k l0 a1 a2) = some r := h
  clear h
  have H' := Aside0.mk H
  clear H
  go_enter Try.func58, Try.ntmps58
  go_wp2
  go_loopg [7] k (fun kq v7 w' => ∃ (x7_1 : Int), v7 = .int .i64 x7_1 ∧ Aside0 (tamisref23_Marked.l0 kq l0 a1 x7_1 = some r) ∧ Aside0 (kq ≤ k) ∧ Drawn0 w w')
  case atStart => exact ⟨(a2), (by first | rfl | (simp; done) | (simp [*]; done)), H', ⟨Nat.le_refl _⟩, by repeat (first | exact Drawn0.refl _ | apply Drawn0.step)⟩
  case round =>
    clear H'
    try clear p2
    obtain ⟨x7_1, rfl, HA, HK1, ⟨m1, rfl⟩⟩ := hrel
    cases gk with
    | zero => exact absurd HA.out (by simp [tamisref23_Marked.l0])
    | succ k1 =>
      have H := HA.out
      clear HA
      simp only [tamisref23_Marked.l0] at H
      by_cases c4 : x7_1 < (l0.length : Int)
      · rw [if_pos c4] at H
        have c4b0 : decide (x7_1 < (l0.length : Int)) = true := decide_eq_true c4
        clear c4
        by_cases c5 : 0 ≤ x7_1
        · rw [if_pos c5] at H
          have c5b0 : decide (0 ≤ x7_1) = true := decide_eq_true c5
          clear c5
          by_cases c6 : ((rd_T38 l0 x7_1).f0) = 4
          · rw [if_pos c6] at H
            have c6b0 : (((rd_T38 l0 x7_1).f0) == 4) = true := beq_iff_eq.mpr c6
            have c6b1 : (((rd_T38 l0 x7_1).f0) != 4) = false := bne_eq_false_iff_eq.mpr c6
            clear c6
            by_cases c7 : ((rd_T38 l0 x7_1).f3) = a1
            · rw [if_pos c7] at H
              have c7b0 : (((rd_T38 l0 x7_1).f3) == a1) = true := beq_iff_eq.mpr c7
              have c7b1 : (((rd_T38 l0 x7_1).f3) != a1) = false := bne_eq_false_iff_eq.mpr c7
              clear c7
              obtain rfl := Option.some.inj H
              have p118 : 0 ≤ (x7_1 : Int) := of_decide_eq_true (by first | (with_reducible assumption) | assumption)
              have q118 : x7_1 < (l0.length : Int) := of_decide_eq_true (by first | (with_reducible assumption) | assumption)
              obtain ⟨ad118, e118, hx118_0, hx118_1, hx118_2, hx118_3, hx118_4⟩ := at_T38 HR0.out x7_1 p118 q118
              cases e118
              replace p118 := eq_true p118
              replace q118 := eq_true q118
              have p119 : 0 ≤ (x7_1 : Int) := of_decide_eq_true (by first | (with_reducible assumption) | assumption)
              have q119 : x7_1 < (l0.length : Int) := of_decide_eq_true (by first | (with_reducible assumption) | assumption)
              obtain ⟨ad119, e119, hx119_0, hx119_1, hx119_2, hx119_3, hx119_4⟩ := at_T38 HR0.out x7_1 p119 q119
              obtain rfl : ad118 = ad119 := (by injection e119)
              replace p119 := eq_true p119
              replace q119 := eq_true q119
              go_wp2
              go_ret
              exact ⟨by first | rfl | (simp; done) | (simp [*]; done), by repeat (first | exact Drawn0.refl _ | apply Drawn0.step)⟩
            · rw [if_neg c7] at H
              have c7b0 : (((rd_T38 l0 x7_1).f3) == a1) = false := beq_eq_false_iff_ne.mpr c7
              have c7b1 : (((rd_T38 l0 x7_1).f3) != a1) = true := bne_iff_ne.mpr c7
              have H' := Aside0.mk H
              clear H
              have p118 : 0 ≤ (x7_1 : Int) := of_decide_eq_true (by first | (with_reducible assumption) | assumption)
              have q118 : x7_1 < (l0.length : Int) := of_decide_eq_true (by first | (with_reducible assumption) | assumption)
              obtain ⟨ad118, e118, hx118_0, hx118_1, hx118_2, hx118_3, hx118_4⟩ := at_T38 HR0.out x7_1 p118 q118
              cases e118
              replace p118 := eq_true p118
              replace q118 := eq_true q118
              have p119 : 0 ≤ (x7_1 : Int) := of_decide_eq_true (by first | (with_reducible assumption) | assumption)
              have q119 : x7_1 < (l0.length : Int) := of_decide_eq_true (by first | (with_reducible assumption) | assumption)
              obtain ⟨ad119, e119, hx119_0, hx119_1, hx119_2, hx119_3, hx119_4⟩ := at_T38 HR0.out x7_1 p119 q119
              obtain rfl : ad118 = ad119 := (by injection e119)
              replace p119 := eq_true p119
              replace q119 := eq_true q119
              go_wp2
              go_roundg k1
              case measure => have := HK1.out; omega
              case rel => exact ⟨(wrap64 (x7_1 + 1)), (by first | rfl | (simp; done) | (simp [*]; done)), H', ⟨by have := HK1.out; omega⟩, by repeat (first | exact Drawn0.refl _ | apply Drawn0.step)⟩
          · rw [if_neg c6] at H
            have c6b0 : (((rd_T38 l0 x7_1).f0) == 4) = false := beq_eq_false_iff_ne.mpr c6
            have c6b1 : (((rd_T38 l0 x7_1).f0) != 4) = true := bne_iff_ne.mpr c6
            have H' := Aside0.mk H
            clear H
            have p118 : 0 ≤ (x7_1 : Int) := of_decide_eq_true (by first | (with_reducible assumption) | assumption)
            have q118 : x7_1 < (l0.length : Int) := of_decide_eq_true (by first | (with_reducible assumption) | assumption)
            obtain ⟨ad118, e118, hx118_0, hx118_1, hx118_2, hx118_3, hx118_4⟩ := at_T38 HR0.out x7_1 p118 q118
            cases e118
            replace p118 := eq_true p118
            replace q118 := eq_true q118
            go_wp2
            go_roundg k1
            case measure => have := HK1.out; omega
            case rel => exact ⟨(wrap64 (x7_1 + 1)), (by first | rfl | (simp; done) | (simp [*]; done)), H', ⟨by have := HK1.out; omega⟩, by repeat (first | exact Drawn0.refl _ | apply Drawn0.step)⟩
        · rw [if_neg c5] at H
          exact absurd H (by simp)
      · rw [if_neg c4] at H
        have c4b0 : decide (x7_1 < (l0.length : Int)) = false := decide_eq_false c4
        clear c4
        obtain rfl := Option.some.inj H
        go_wp2
        go_ret
        exact ⟨by first | rfl | (simp; done) | (simp [*]; done), by repeat (first | exact Drawn0.refl _ | apply Drawn0.step)⟩

end Go.Proofs.Ytmjpibeiglicdaa.E
