/- Functions of the program as plain Lean functions, and their contracts; written by a program out of the translation. -/
import Derived.Test.YtmjpibeiglicdaaX0
namespace Go.Proofs.Ytmjpibeiglicdaa.X
open Go.RowKit Go.Proofs.YtmjpibeiglicdaaW.PrintWords Go.Proofs.YtmjpibeiglicdaaW.PrintLast Go.Proofs.YtmjpibeiglicdaaW.PrintMore
attribute [local go_sem] max2_int min2_int max_two min_two max_three min_three max_four min_four   -- for this text's walks alone
set_option linter.unusedVariables false
set_option linter.unusedSimpArgs false

-- NOT PRINTED: function 103 (code_table)

/-! ### code_Kind: function 78 -/
def code_Kind.f (a0 : Int) : Option (Int) := some (Code.kindOf a0)
theorem code_Kind.calls (a0 : Int) (r : Int) (w : World) (h : code_Kind.f a0 = some r) :
    Calls Try.prog 78 #[.int .u16 a0] w fun e w' => e = .returned (.int .i64 r) ∧ Below w.heap.size w w' := by
  obtain rfl := Option.some.inj h
  exact Code.kind_calls a0 w

/-! ### record_Load: function 79 -/
def record_Load.f (a0_0 : Int) (a0_1 : Int) (a0_2 : Int) (a0_3 : Int) (a0_4 : Int) (a0_5 : Int) (a0_6 : Int) (a0_7 : Int) (a0_8 : Int) (a0_9 : Int) (a0_10 : Int) (a0_11 : Int) (a0_12 : Int) (a0_13 : Int) (a0_14 : Int) (a0_15 : Int) (a1 : Int) : Option (Int × Bool) := Rec.loadF [a0_0, a0_1, a0_2, a0_3, a0_4, a0_5, a0_6, a0_7, a0_8, a0_9, a0_10, a0_11, a0_12, a0_13, a0_14, a0_15] a1
theorem record_Load.calls (a0_0 : Int) (a0_1 : Int) (a0_2 : Int) (a0_3 : Int) (a0_4 : Int) (a0_5 : Int) (a0_6 : Int) (a0_7 : Int) (a0_8 : Int) (a0_9 : Int) (a0_10 : Int) (a0_11 : Int) (a0_12 : Int) (a0_13 : Int) (a0_14 : Int) (a0_15 : Int) (a1 : Int) (r1 : Int) (r2 : Bool) (w : World) (h : record_Load.f a0_0 a0_1 a0_2 a0_3 a0_4 a0_5 a0_6 a0_7 a0_8 a0_9 a0_10 a0_11 a0_12 a0_13 a0_14 a0_15 a1 = some (r1, r2)) :
    Calls Try.prog 79 #[.agg #[.int .u32 a0_0, .int .u32 a0_1, .int .u32 a0_2, .int .u32 a0_3, .int .u32 a0_4, .int .u32 a0_5, .int .u32 a0_6, .int .u32 a0_7, .int .u32 a0_8, .int .u32 a0_9, .int .u32 a0_10, .int .u32 a0_11, .int .u32 a0_12, .int .u32 a0_13, .int .u32 a0_14, .int .u32 a0_15], .int .u32 a1] w fun e w' => e = .returned (.tuple #[.int .u32 r1, .bool r2]) ∧ Below w.heap.size w w' := Rec.load_calls a0_0 a0_1 a0_2 a0_3 a0_4 a0_5 a0_6 a0_7 a0_8 a0_9 a0_10 a0_11 a0_12 a0_13 a0_14 a0_15 a1 r1 r2 w h

/-! ### instr_FromX: function 104 -/
def instr_FromX.f (a0_0 : Int) (a0_1 : Int) (a0_2 : Int) (a0_3 : Int) : Option (Bool) := some ((Go.bits .and .u16 a0_0 8) != 0)
set_option maxHeartbeats 8000000 in
set_option maxRecDepth 100000 in
theorem instr_FromX.calls (a0_0 : Int) (a0_1 : Int) (a0_2 : Int) (a0_3 : Int) (r : Bool) (w : World) (h : instr_FromX.f a0_0 a0_1 a0_2 a0_3 = some r) :
    Calls Try.prog 104 #[.agg #[.int .u16 a0_0, .int .u8 a0_1, .int .u8 a0_2, .int .u32 a0_3]] w fun e w' => e = .returned (.bool r) ∧ Below w.heap.size w w' := by
  have hu56 := Try.underlying56
  have HB := Aside0.mk (Below.refl w.heap.size w)
  have H : (some ((Go.bits .and .u16 a0_0 8) != 0)) = some r := h
  clear h
  obtain rfl := Option.some.inj H
  go_enter Try.func104, Try.ntmps104
  go_wp2_with (first | ((with_reducible refine gate_dst (N := 1) rfl ?_); refine box_event ?hg (N := 1) ?hd (cs := #[.int .u16 a0_0, .int .u8 a0_1, .int .u8 a0_2, .int .u32 a0_3]) (t := 56) ?hr ?_; (case hd => rfl); (case hg => rfl); (case hr => first | (go_simp; done) | (go_simp; rfl)); intro gb101 hg w2 hbox hb; have n0_ := Aside0.mk (below_step (by repeat (first | (with_reducible first | exact HB.out | apply below_alloc | apply pw_below_drewN | apply below_drew1) | exact HB.out)) hb); have n1_ := Aside0.mk (hbox); have n2_ := Aside0.mk ((by rw [hg]; exact (below_size (by repeat (first | (with_reducible first | exact HB.out | apply below_alloc | apply pw_below_drewN | apply below_drew1) | exact HB.out))) : w.heap.size ≤ gb101)); have n3_ := Aside0.mk ((by rw [hg]; exact (below_size (by repeat (first | (with_reducible first | exact HB.out | apply below_alloc | apply pw_below_drewN | apply below_drew1) | exact HB.out))) : w.heap.size ≤ gb101)); clear HB; have HB := n0_; have BK101 := n1_; have GW101 := n2_; have GE101 := n3_; clear n0_ n1_ n2_ n3_; clear hb hbox hg; have hcz3_0 : w2.cell? ⟨gb101, 0, none⟩ = some (.int .u16 a0_0) := (blk_cell BK101.out 0).trans rfl; have hcz3_1 : w2.cell? ⟨gb101, 1, none⟩ = some (.int .u8 a0_1) := (blk_cell BK101.out 1).trans rfl; have hcz3_2 : w2.cell? ⟨gb101, 2, none⟩ = some (.int .u8 a0_2) := (blk_cell BK101.out 2).trans rfl; have hcz3_3 : w2.cell? ⟨gb101, 3, none⟩ = some (.int .u32 a0_3) := (blk_cell BK101.out 3).trans rfl; have hfz3_0 := blk_frozen BK101.out 0; have hfz3_1 := blk_frozen BK101.out 1; have hfz3_2 := blk_frozen BK101.out 2; have hfz3_3 := blk_frozen BK101.out 3))
  go_ret
  exact ⟨by first | rfl | (simp [errW_none, errW_some] <;> rfl) | (simp [*, errW_none, errW_some] <;> rfl), by repeat (first | (with_reducible first | exact HB.out | apply below_alloc | apply pw_below_drewN | apply below_drew1 | refine below_set ?_ GE101.out) | exact HB.out)⟩

/-! ### instr_Op: function 105 -/
def instr_Op.f (a0_0 : Int) (a0_1 : Int) (a0_2 : Int) (a0_3 : Int) : Option (Int) := some (wrap64 (Go.bits .and .u16 a0_0 240))
set_option maxHeartbeats 8000000 in
set_option maxRecDepth 100000 in
theorem instr_Op.calls (a0_0 : Int) (a0_1 : Int) (a0_2 : Int) (a0_3 : Int) (r : Int) (w : World) (h : instr_Op.f a0_0 a0_1 a0_2 a0_3 = some r) :
    Calls Try.prog 105 #[.agg #[.int .u16 a0_0, .int .u8 a0_1, .int .u8 a0_2, .int .u32 a0_3]] w fun e w' => e = .returned (.int .i64 r) ∧ Below w.heap.size w w' := by
  have hu56 := Try.underlying56
  have HB := Aside0.mk (Below.refl w.heap.size w)
  have H : (some (wrap64 (Go.bits .and .u16 a0_0 240))) = some r := h
  clear h
  obtain rfl := Option.some.inj H
  go_enter Try.func105, Try.ntmps105
  go_wp2_with (first | ((with_reducible refine gate_dst (N := 1) rfl ?_); refine box_event ?hg (N := 1) ?hd (cs := #[.int .u16 a0_0, .int .u8 a0_1, .int .u8 a0_2, .int .u32 a0_3]) (t := 56) ?hr ?_; (case hd => rfl); (case hg => rfl); (case hr => first | (go_simp; done) | (go_simp; rfl)); intro gb102 hg w2 hbox hb; have n0_ := Aside0.mk (below_step (by repeat (first | (with_reducible first | exact HB.out | apply below_alloc | apply pw_below_drewN | apply below_drew1) | exact HB.out)) hb); have n1_ := Aside0.mk (hbox); have n2_ := Aside0.mk ((by rw [hg]; exact (below_size (by repeat (first | (with_reducible first | exact HB.out | apply below_alloc | apply pw_below_drewN | apply below_drew1) | exact HB.out))) : w.heap.size ≤ gb102)); have n3_ := Aside0.mk ((by rw [hg]; exact (below_size (by repeat (first | (with_reducible first | exact HB.out | apply below_alloc | apply pw_below_drewN | apply below_drew1) | exact HB.out))) : w.heap.size ≤ gb102)); clear HB; have HB := n0_; have BK102 := n1_; have GW102 := n2_; have GE102 := n3_; clear n0_ n1_ n2_ n3_; clear hb hbox hg; have hcz3_0 : w2.cell? ⟨gb102, 0, none⟩ = some (.int .u16 a0_0) := (blk_cell BK102.out 0).trans rfl; have hcz3_1 : w2.cell? ⟨gb102, 1, none⟩ = some (.int .u8 a0_1) := (blk_cell BK102.out 1).trans rfl; have hcz3_2 : w2.cell? ⟨gb102, 2, none⟩ = some (.int .u8 a0_2) := (blk_cell BK102.out 2).trans rfl; have hcz3_3 : w2.cell? ⟨gb102, 3, none⟩ = some (.int .u32 a0_3) := (blk_cell BK102.out 3).trans rfl; have hfz3_0 := blk_frozen BK102.out 0; have hfz3_1 := blk_frozen BK102.out 1; have hfz3_2 := blk_frozen BK102.out 2; have hfz3_3 := blk_frozen BK102.out 3))
  go_ret
  exact ⟨by first | rfl | (simp [errW_none, errW_some] <;> rfl) | (simp [*, errW_none, errW_some] <;> rfl), by repeat (first | (with_reducible first | exact HB.out | apply below_alloc | apply pw_below_drewN | apply below_drew1 | refine below_set ?_ GE102.out) | exact HB.out)⟩

/-! ### verify_alu: function 80 -/
def verify_alu.j0 : Nat → Int → Bool → Int → Int → Int → Int → Option (Int)
  | 0, _, _, _, _, _, _ => none
  | k + 1, x3, x8, x104000, x104001, x104002, x104003 => if x8 = true then (some 8) else (if x3 = 96 then (if x104003 ≥ 32 then (some 9) else (some 0)) else (if x3 = 112 then (if x104003 ≥ 32 then (some 9) else (some 0)) else (some 0)))
def verify_alu.f (k : Nat) (a0_0 : Int) (a0_1 : Int) (a0_2 : Int) (a0_3 : Int) : Option (Int) := (instr_FromX.f a0_0 a0_1 a0_2 a0_3).bind fun t104 => (if t104 = true then (some 0) else ((instr_Op.f a0_0 a0_1 a0_2 a0_3).bind fun t105 => (if t105 = 48 then (verify_alu.j0 k t105 (a0_3 == 0) a0_0 a0_1 a0_2 a0_3) else (verify_alu.j0 k t105 false a0_0 a0_1 a0_2 a0_3))))
theorem verify_alu.mono_l : ∀ k, (∀ y0 y1 y2 y3 y4 y5, LeO (verify_alu.j0 k y0 y1 y2 y3 y4 y5) (verify_alu.j0 (k + 1) y0 y1 y2 y3 y4 y5))
  | 0 => fun _ _ _ _ _ _ r h => by simp [verify_alu.j0] at h
  | k + 1 => by
    have ih0 := verify_alu.mono_l k
    · intro y0 y1 y2 y3 y4 y5
      unfold verify_alu.j0
      repeat' first
      | (with_reducible exact ih0 _ _ _ _ _ _)
      | (with_reducible exact LeO.refl _)
      | (with_reducible exact LeO.none _)
      | (with_reducible refine LeO.ite ?_ ?_)
      | (with_reducible refine LeO.bind ?_ (fun _ => ?_))
      | exact ih0 _ _ _ _ _ _
      | exact LeO.none _
      | refine LeO.ite ?_ ?_
      | refine LeO.bind ?_ (fun _ => ?_)
theorem verify_alu.mono : ∀ a0 a1 a2 a3 k, LeO (verify_alu.f k a0 a1 a2 a3) (verify_alu.f (k + 1) a0 a1 a2 a3) := by
  intro a0 a1 a2 a3 k
  have ih0 := verify_alu.mono_l k
  unfold verify_alu.f
  repeat' first
      | (with_reducible exact ih0 _ _ _ _ _ _)
      | (with_reducible exact LeO.refl _)
      | (with_reducible exact LeO.none _)
      | (with_reducible refine LeO.ite ?_ ?_)
      | (with_reducible refine LeO.bind ?_ (fun _ => ?_))
      | exact ih0 _ _ _ _ _ _
      | exact LeO.none _
      | refine LeO.ite ?_ ?_
      | refine LeO.bind ?_ (fun _ => ?_)
set_option maxHeartbeats 8000000 in
set_option maxRecDepth 100000 in
theorem verify_alu.calls (k : Nat) (a0_0 : Int) (a0_1 : Int) (a0_2 : Int) (a0_3 : Int) (r : Int) (w : World) (h : verify_alu.f k a0_0 a0_1 a0_2 a0_3 = some r) :
    Calls Try.prog 80 #[.agg #[.int .u16 a0_0, .int .u8 a0_1, .int .u8 a0_2, .int .u32 a0_3]] w fun e w' => e = .returned (.int .i64 r) ∧ Below w.heap.size w w' := by
  have hu56 := Try.underlying56
  have HB := Aside0.mk (Below.refl w.heap.size w)
  have H : ((instr_FromX.f a0_0 a0_1 a0_2 a0_3).bind fun t104 => (if t104 = true then (some 0) else ((instr_Op.f a0_0 a0_1 a0_2 a0_3).bind fun t105 => (if t105 = 48 then (verify_alu.j0 k t105 (a0_3 == 0) a0_0 a0_1 a0_2 a0_3) else (verify_alu.j0 k t105 false a0_0 a0_1 a0_2 a0_3))))) = some r := h
  clear h
  replace H := Option.bind_eq_some_iff.mp H
  obtain ⟨t104, A20, H⟩ := H
  replace H : (if t104 = true then (some 0) else ((instr_Op.f a0_0 a0_1 a0_2 a0_3).bind fun t105 => (if t105 = 48 then (verify_alu.j0 k t105 (a0_3 == 0) a0_0 a0_1 a0_2 a0_3) else (verify_alu.j0 k t105 false a0_0 a0_1 a0_2 a0_3)))) = some r := H
  have A2 := Aside0.mk A20
  clear A20
  by_cases c3 : t104 = true
  · subst c3
    have H1 : (some 0) = some r := by rw [if_pos rfl] at H; exact H
    clear H
    have H := H1
    clear H1
    obtain rfl := Option.some.inj H
    go_enter Try.func80, Try.ntmps80
    go_wp2_with (first | ((with_reducible refine gate_dst (N := 1) rfl ?_); refine box_event ?hg (N := 1) ?hd (cs := #[.int .u16 a0_0, .int .u8 a0_1, .int .u8 a0_2, .int .u32 a0_3]) (t := 56) ?hr ?_; (case hd => rfl); (case hg => rfl); (case hr => first | (go_simp; done) | (go_simp; rfl)); intro gb103 hg w4 hbox hb; have n0_ := Aside0.mk (below_step (by repeat (first | (with_reducible first | exact HB.out | apply below_alloc | apply pw_below_drewN | apply below_drew1) | exact HB.out)) hb); have n1_ := Aside0.mk (hbox); have n2_ := Aside0.mk ((by rw [hg]; exact (below_size (by repeat (first | (with_reducible first | exact HB.out | apply below_alloc | apply pw_below_drewN | apply below_drew1) | exact HB.out))) : w.heap.size ≤ gb103)); have n3_ := Aside0.mk ((by rw [hg]; exact (below_size (by repeat (first | (with_reducible first | exact HB.out | apply below_alloc | apply pw_below_drewN | apply below_drew1) | exact HB.out))) : w.heap.size ≤ gb103)); clear HB; have HB := n0_; have BK103 := n1_; have GW103 := n2_; have GE103 := n3_; clear n0_ n1_ n2_ n3_; clear hb hbox hg; have hcz5_0 : w4.cell? ⟨gb103, 0, none⟩ = some (.int .u16 a0_0) := (blk_cell BK103.out 0).trans rfl; have hcz5_1 : w4.cell? ⟨gb103, 1, none⟩ = some (.int .u8 a0_1) := (blk_cell BK103.out 1).trans rfl; have hcz5_2 : w4.cell? ⟨gb103, 2, none⟩ = some (.int .u8 a0_2) := (blk_cell BK103.out 2).trans rfl; have hcz5_3 : w4.cell? ⟨gb103, 3, none⟩ = some (.int .u32 a0_3) := (blk_cell BK103.out 3).trans rfl; have hfz5_0 := blk_frozen BK103.out 0; have hfz5_1 := blk_frozen BK103.out 1; have hfz5_2 := blk_frozen BK103.out 2; have hfz5_3 := blk_frozen BK103.out 3) | ((with_reducible refine gate_callee (f := 104) rfl ?_); refine goesL_ (some 5) rfl rfl Try.func104 (by kernel_rfl) rfl #[.agg #[.int .u16 a0_0, .int .u8 a0_1, .int .u8 a0_2, .int .u32 a0_3]] rfl (by (try simp only [List.map_toArray, List.map_cons, List.map_nil]); first | done | rfl | (simp only [List.length_drop, List.length_take]; rfl)) ?_; (with_reducible refine (instr_FromX.calls a0_0 a0_1 a0_2 a0_3 true _ A2.out).mono ?_); rintro e w6 ⟨rfl, hb⟩; refine ⟨_, rfl, ?_⟩; have n0_ := Aside0.mk (blk_below (g := gb103) (o := .cells #[.int .u16 a0_0, .int .u8 a0_1, .int .u8 a0_2, .int .u32 a0_3] 56 (0, 0)) (by (with_reducible repeat (first | refine blk_drewN ?_ _ | refine blk_drew ?_ | refine blk_alloc ?_ _)); exact BK103.out) hb); have n1_ := Aside0.mk (below_step (by repeat (first | (with_reducible first | exact HB.out | apply below_alloc | apply pw_below_drewN | apply below_drew1 | refine below_set ?_ GE103.out) | exact HB.out)) hb); clear BK103; clear HB; have BK103 := n0_; have HB := n1_; clear n0_ n1_; (try clear hb); (try clear hb2); (try clear hk); (try clear hi)))
    go_ret
    exact ⟨by first | rfl | (simp [errW_none, errW_some] <;> rfl) | (simp [*, errW_none, errW_some] <;> rfl), by repeat (first | (with_reducible first | exact HB.out | apply below_alloc | apply pw_below_drewN | apply below_drew1 | refine below_set ?_ GE103.out) | exact HB.out)⟩
  · replace c3 := Bool.eq_false_iff.mpr c3
    subst c3
    have H1 : ((instr_Op.f a0_0 a0_1 a0_2 a0_3).bind fun t105 => (if t105 = 48 then (verify_alu.j0 k t105 (a0_3 == 0) a0_0 a0_1 a0_2 a0_3) else (verify_alu.j0 k t105 false a0_0 a0_1 a0_2 a0_3))) = some r := by rw [if_neg (show ¬ (false = true) by decide)] at H; exact H
    clear H
    have H := H1
    clear H1
    replace H := Option.bind_eq_some_iff.mp H
    obtain ⟨t105, A70, H⟩ := H
    replace H : (if t105 = 48 then (verify_alu.j0 k t105 (a0_3 == 0) a0_0 a0_1 a0_2 a0_3) else (verify_alu.j0 k t105 false a0_0 a0_1 a0_2 a0_3)) = some r := H
    have A7 := Aside0.mk A70
    clear A70
    have HC8 := Aside0.mk H
    clear H
    go_enter Try.func80, Try.ntmps80
    go_upto_region 4 with (first | ((with_reducible refine gate_dst (N := 1) rfl ?_); refine box_event ?hg (N := 1) ?hd (cs := #[.int .u16 a0_0, .int .u8 a0_1, .int .u8 a0_2, .int .u32 a0_3]) (t := 56) ?hr ?_; (case hd => rfl); (case hg => rfl); (case hr => first | (go_simp; done) | (go_simp; rfl)); intro gb103 hg w9 hbox hb; have n0_ := Aside0.mk (below_step (by repeat (first | (with_reducible first | exact HB.out | apply below_alloc | apply pw_below_drewN | apply below_drew1) | exact HB.out)) hb); have n1_ := Aside0.mk (hbox); have n2_ := Aside0.mk ((by rw [hg]; exact (below_size (by repeat (first | (with_reducible first | exact HB.out | apply below_alloc | apply pw_below_drewN | apply below_drew1) | exact HB.out))) : w.heap.size ≤ gb103)); have n3_ := Aside0.mk ((by rw [hg]; exact (below_size (by repeat (first | (with_reducible first | exact HB.out | apply below_alloc | apply pw_below_drewN | apply below_drew1) | exact HB.out))) : w.heap.size ≤ gb103)); clear HB; have HB := n0_; have BK103 := n1_; have GW103 := n2_; have GE103 := n3_; clear n0_ n1_ n2_ n3_; clear hb hbox hg; have hcz10_0 : w9.cell? ⟨gb103, 0, none⟩ = some (.int .u16 a0_0) := (blk_cell BK103.out 0).trans rfl; have hcz10_1 : w9.cell? ⟨gb103, 1, none⟩ = some (.int .u8 a0_1) := (blk_cell BK103.out 1).trans rfl; have hcz10_2 : w9.cell? ⟨gb103, 2, none⟩ = some (.int .u8 a0_2) := (blk_cell BK103.out 2).trans rfl; have hcz10_3 : w9.cell? ⟨gb103, 3, none⟩ = some (.int .u32 a0_3) := (blk_cell BK103.out 3).trans rfl; have hfz10_0 := blk_frozen BK103.out 0; have hfz10_1 := blk_frozen BK103.out 1; have hfz10_2 := blk_frozen BK103.out 2; have hfz10_3 := blk_frozen BK103.out 3) | ((with_reducible refine gate_callee (f := 104) rfl ?_); refine goesL_ (some 5) rfl rfl Try.func104 (by kernel_rfl) rfl #[.agg #[.int .u16 a0_0, .int .u8 a0_1, .int .u8 a0_2, .int .u32 a0_3]] rfl (by (try simp only [List.map_toArray, List.map_cons, List.map_nil]); first | done | rfl | (simp only [List.length_drop, List.length_take]; rfl)) ?_; (with_reducible refine (instr_FromX.calls a0_0 a0_1 a0_2 a0_3 false _ A2.out).mono ?_); rintro e w11 ⟨rfl, hb⟩; refine ⟨_, rfl, ?_⟩; have n0_ := Aside0.mk (blk_below (g := gb103) (o := .cells #[.int .u16 a0_0, .int .u8 a0_1, .int .u8 a0_2, .int .u32 a0_3] 56 (0, 0)) (by (with_reducible repeat (first | refine blk_drewN ?_ _ | refine blk_drew ?_ | refine blk_alloc ?_ _)); exact BK103.out) hb); have n1_ := Aside0.mk (below_step (by repeat (first | (with_reducible first | exact HB.out | apply below_alloc | apply pw_below_drewN | apply below_drew1 | refine below_set ?_ GE103.out) | exact HB.out)) hb); clear BK103; clear HB; have BK103 := n0_; have HB := n1_; clear n0_ n1_; (try clear hb); (try clear hb2); (try clear hk); (try clear hi); have hcz12_0 : w11.cell? ⟨gb103, 0, none⟩ = some (.int .u16 a0_0) := (blk_cell BK103.out 0).trans rfl; have hcz12_1 : w11.cell? ⟨gb103, 1, none⟩ = some (.int .u8 a0_1) := (blk_cell BK103.out 1).trans rfl; have hcz12_2 : w11.cell? ⟨gb103, 2, none⟩ = some (.int .u8 a0_2) := (blk_cell BK103.out 2).trans rfl; have hcz12_3 : w11.cell? ⟨gb103, 3, none⟩ = some (.int .u32 a0_3) := (blk_cell BK103.out 3).trans rfl; have hfz12_0 := blk_frozen BK103.out 0; have hfz12_1 := blk_frozen BK103.out 1; have hfz12_2 := blk_frozen BK103.out 2; have hfz12_3 := blk_frozen BK103.out 3) | ((with_reducible refine gate_callee (f := 105) rfl ?_); refine goesL_ (some 7) rfl rfl Try.func105 (by kernel_rfl) rfl #[.agg #[.int .u16 a0_0, .int .u8 a0_1, .int .u8 a0_2, .int .u32 a0_3]] rfl (by (try simp only [List.map_toArray, List.map_cons, List.map_nil]); first | done | rfl | (simp only [List.length_drop, List.length_take]; rfl)) ?_; (with_reducible refine (instr_Op.calls a0_0 a0_1 a0_2 a0_3 t105 _ A7.out).mono ?_); rintro e w13 ⟨rfl, hb⟩; refine ⟨_, rfl, ?_⟩; have n0_ := Aside0.mk (blk_below (g := gb103) (o := .cells #[.int .u16 a0_0, .int .u8 a0_1, .int .u8 a0_2, .int .u32 a0_3] 56 (0, 0)) (by (with_reducible repeat (first | refine blk_drewN ?_ _ | refine blk_drew ?_ | refine blk_alloc ?_ _)); exact BK103.out) hb); have n1_ := Aside0.mk (below_step (by repeat (first | (with_reducible first | exact HB.out | apply below_alloc | apply pw_below_drewN | apply below_drew1 | refine below_set ?_ GE103.out) | exact HB.out)) hb); clear BK103; clear HB; have BK103 := n0_; have HB := n1_; clear n0_ n1_; (try clear hb); (try clear hb2); (try clear hk); (try clear hi)))
    (try simp only [Act.put, List.setIfInBounds_toArray, List.set_cons_zero, List.set_cons_succ])
    go_cut [8] (fun v8 wc => ∃ (kq : Nat) (x8_7 : Bool), v8 = .bool x8_7 ∧ Aside0 (verify_alu.j0 kq t105 x8_7 a0_0 a0_1 a0_2 a0_3 = some r) ∧ Aside0 (kq ≤ k) ∧ Aside0 (wc.heap[gb103]? = some (.cells #[.int .u16 a0_0, .int .u8 a0_1, .int .u8 a0_2, .int .u32 a0_3] 56 (0, 0))) ∧ Aside0 (Below w.heap.size w wc))
    case first =>
      have H := HC8.out
      clear HC8
      by_cases c14 : t105 = 48
      · rw [if_pos c14] at H
        have c14b0 : (t105 == 48) = true := beq_iff_eq.mpr c14
        have c14b1 : (t105 != 48) = false := bne_eq_false_iff_eq.mpr c14
        clear c14
        (first | rw [c14b0] | (simp only [i64_w, i32_w]; rw [c14b0]) | skip)
        have H' := Aside0.mk H
        clear H
        have hcz15_0 : w13.cell? ⟨gb103, 0, none⟩ = some (.int .u16 a0_0) := (blk_cell BK103.out 0).trans rfl
        have hcz15_1 : w13.cell? ⟨gb103, 1, none⟩ = some (.int .u8 a0_1) := (blk_cell BK103.out 1).trans rfl
        have hcz15_2 : w13.cell? ⟨gb103, 2, none⟩ = some (.int .u8 a0_2) := (blk_cell BK103.out 2).trans rfl
        have hcz15_3 : w13.cell? ⟨gb103, 3, none⟩ = some (.int .u32 a0_3) := (blk_cell BK103.out 3).trans rfl
        have hfz15_0 := blk_frozen BK103.out 0
        have hfz15_1 := blk_frozen BK103.out 1
        have hfz15_2 := blk_frozen BK103.out 2
        have hfz15_3 := blk_frozen BK103.out 3
        go_wp2
        go_meet
        case rel => exact ⟨_, ((a0_3 == 0)), (by first | rfl | (simp; done) | (simp [*]; done)), H', ⟨by first | omega | exact Nat.le_refl _⟩, ⟨by (with_reducible repeat (first | refine blk_drewN ?_ _ | refine blk_drew ?_ | refine blk_alloc ?_ _)); exact BK103.out⟩, ⟨by repeat (first | (with_reducible first | exact HB.out | apply below_alloc | apply pw_below_drewN | apply below_drew1 | refine below_set ?_ GE103.out) | exact HB.out)⟩⟩
      · rw [if_neg c14] at H
        have c14b0 : (t105 == 48) = false := beq_eq_false_iff_ne.mpr c14
        have c14b1 : (t105 != 48) = true := bne_iff_ne.mpr c14
        (first | rw [c14b0] | (simp only [i64_w, i32_w]; rw [c14b0]) | skip)
        have H' := Aside0.mk H
        clear H
        go_wp2
        go_meet
        case rel => exact ⟨_, (false), (by first | rfl | (simp; done) | (simp [*]; done)), H', ⟨by first | omega | exact Nat.le_refl _⟩, ⟨by (with_reducible repeat (first | refine blk_drewN ?_ _ | refine blk_drew ?_ | refine blk_alloc ?_ _)); exact BK103.out⟩, ⟨by repeat (first | (with_reducible first | exact HB.out | apply below_alloc | apply pw_below_drewN | apply below_drew1 | refine below_set ?_ GE103.out) | exact HB.out)⟩⟩
    case rest =>
      clear HC8
      try clear c1
      try clear p2
      try clear c3
      try clear c8
      try clear c10
      try clear c14
      try clear c14b0
      try clear c14b1
      try clear hcz10_0
      try clear hcz10_1
      try clear hcz10_2
      try clear hcz10_3
      try clear hcz12_0
      try clear hcz12_1
      try clear hcz12_2
      try clear hcz12_3
      try clear hcz15_0
      try clear hcz15_1
      try clear hcz15_2
      try clear hcz15_3
      try clear hcz5_0
      try clear hcz5_1
      try clear hcz5_2
      try clear hcz5_3
      try clear hfz10_0
      try clear hfz10_1
      try clear hfz10_2
      try clear hfz10_3
      try clear hfz12_0
      try clear hfz12_1
      try clear hfz12_2
      try clear hfz12_3
      try clear hfz15_0
      try clear hfz15_1
      try clear hfz15_2
      try clear hfz15_3
      try clear hfz5_0
      try clear hfz5_1
      try clear hfz5_2
      try clear hfz5_3
      obtain ⟨kq, x8_7, rfl, HA, HJ7, BK103, HB⟩ := hcut
      cases kq with
      | zero => exact absurd HA.out (by simp [verify_alu.j0])
      | succ kj7 =>
        have H := HA.out
        clear HA
        simp only [verify_alu.j0] at H
        by_cases c16 : x8_7 = true
        · subst c16
          have H1 : (some 8) = some r := by rw [if_pos rfl] at H; exact H
          clear H
          have H := H1
          clear H1
          obtain rfl := Option.some.inj H
          go_wp2
          go_ret
          exact ⟨by first | rfl | (simp [errW_none, errW_some] <;> rfl) | (simp [*, errW_none, errW_some] <;> rfl), by repeat (first | (with_reducible first | exact HB.out | apply below_alloc | apply pw_below_drewN | apply below_drew1 | refine below_set ?_ GE103.out) | exact HB.out)⟩
        · replace c16 := Bool.eq_false_iff.mpr c16
          subst c16
          have H1 : (if t105 = 96 then (if a0_3 ≥ 32 then (some 9) else (some 0)) else (if t105 = 112 then (if a0_3 ≥ 32 then (some 9) else (some 0)) else (some 0))) = some r := by rw [if_neg (show ¬ (false = true) by decide)] at H; exact H
          clear H
          have H := H1
          clear H1
          by_cases c17 : t105 = 96
          · rw [if_pos c17] at H
            have c17b0 : (t105 == 96) = true := beq_iff_eq.mpr c17
            have c17b1 : (t105 != 96) = false := bne_eq_false_iff_eq.mpr c17
            clear c17
            by_cases c18 : a0_3 ≥ 32
            · rw [if_pos c18] at H
              have c18b0 : decide (32 ≤ a0_3) = true := decide_eq_true c18
              clear c18
              obtain rfl := Option.some.inj H
              have hcz19_0 : wc.cell? ⟨gb103, 0, none⟩ = some (.int .u16 a0_0) := (blk_cell BK103.out 0).trans rfl
              have hcz19_1 : wc.cell? ⟨gb103, 1, none⟩ = some (.int .u8 a0_1) := (blk_cell BK103.out 1).trans rfl
              have hcz19_2 : wc.cell? ⟨gb103, 2, none⟩ = some (.int .u8 a0_2) := (blk_cell BK103.out 2).trans rfl
              have hcz19_3 : wc.cell? ⟨gb103, 3, none⟩ = some (.int .u32 a0_3) := (blk_cell BK103.out 3).trans rfl
              have hfz19_0 := blk_frozen BK103.out 0
              have hfz19_1 := blk_frozen BK103.out 1
              have hfz19_2 := blk_frozen BK103.out 2
              have hfz19_3 := blk_frozen BK103.out 3
              go_wp2
              go_ret
              exact ⟨by first | rfl | (simp [errW_none, errW_some] <;> rfl) | (simp [*, errW_none, errW_some] <;> rfl), by repeat (first | (with_reducible first | exact HB.out | apply below_alloc | apply pw_below_drewN | apply below_drew1 | refine below_set ?_ GE103.out) | exact HB.out)⟩
            · rw [if_neg c18] at H
              have c18b0 : decide (32 ≤ a0_3) = false := decide_eq_false c18
              clear c18
              obtain rfl := Option.some.inj H
              have hcz20_0 : wc.cell? ⟨gb103, 0, none⟩ = some (.int .u16 a0_0) := (blk_cell BK103.out 0).trans rfl
              have hcz20_1 : wc.cell? ⟨gb103, 1, none⟩ = some (.int .u8 a0_1) := (blk_cell BK103.out 1).trans rfl
              have hcz20_2 : wc.cell? ⟨gb103, 2, none⟩ = some (.int .u8 a0_2) := (blk_cell BK103.out 2).trans rfl
              have hcz20_3 : wc.cell? ⟨gb103, 3, none⟩ = some (.int .u32 a0_3) := (blk_cell BK103.out 3).trans rfl
              have hfz20_0 := blk_frozen BK103.out 0
              have hfz20_1 := blk_frozen BK103.out 1
              have hfz20_2 := blk_frozen BK103.out 2
              have hfz20_3 := blk_frozen BK103.out 3
              go_wp2
              go_ret
              exact ⟨by first | rfl | (simp [errW_none, errW_some] <;> rfl) | (simp [*, errW_none, errW_some] <;> rfl), by repeat (first | (with_reducible first | exact HB.out | apply below_alloc | apply pw_below_drewN | apply below_drew1 | refine below_set ?_ GE103.out) | exact HB.out)⟩
          · rw [if_neg c17] at H
            have c17b0 : (t105 == 96) = false := beq_eq_false_iff_ne.mpr c17
            have c17b1 : (t105 != 96) = true := bne_iff_ne.mpr c17
            by_cases c21 : t105 = 112
            · rw [if_pos c21] at H
              have c21b0 : (t105 == 112) = true := beq_iff_eq.mpr c21
              have c21b1 : (t105 != 112) = false := bne_eq_false_iff_eq.mpr c21
              clear c21
              by_cases c22 : a0_3 ≥ 32
              · rw [if_pos c22] at H
                have c22b0 : decide (32 ≤ a0_3) = true := decide_eq_true c22
                clear c22
                obtain rfl := Option.some.inj H
                have hcz23_0 : wc.cell? ⟨gb103, 0, none⟩ = some (.int .u16 a0_0) := (blk_cell BK103.out 0).trans rfl
                have hcz23_1 : wc.cell? ⟨gb103, 1, none⟩ = some (.int .u8 a0_1) := (blk_cell BK103.out 1).trans rfl
                have hcz23_2 : wc.cell? ⟨gb103, 2, none⟩ = some (.int .u8 a0_2) := (blk_cell BK103.out 2).trans rfl
                have hcz23_3 : wc.cell? ⟨gb103, 3, none⟩ = some (.int .u32 a0_3) := (blk_cell BK103.out 3).trans rfl
                have hfz23_0 := blk_frozen BK103.out 0
                have hfz23_1 := blk_frozen BK103.out 1
                have hfz23_2 := blk_frozen BK103.out 2
                have hfz23_3 := blk_frozen BK103.out 3
                go_wp2
                go_ret
                exact ⟨by first | rfl | (simp [errW_none, errW_some] <;> rfl) | (simp [*, errW_none, errW_some] <;> rfl), by repeat (first | (with_reducible first | exact HB.out | apply below_alloc | apply pw_below_drewN | apply below_drew1 | refine below_set ?_ GE103.out) | exact HB.out)⟩
              · rw [if_neg c22] at H
                have c22b0 : decide (32 ≤ a0_3) = false := decide_eq_false c22
                clear c22
                obtain rfl := Option.some.inj H
                have hcz24_0 : wc.cell? ⟨gb103, 0, none⟩ = some (.int .u16 a0_0) := (blk_cell BK103.out 0).trans rfl
                have hcz24_1 : wc.cell? ⟨gb103, 1, none⟩ = some (.int .u8 a0_1) := (blk_cell BK103.out 1).trans rfl
                have hcz24_2 : wc.cell? ⟨gb103, 2, none⟩ = some (.int .u8 a0_2) := (blk_cell BK103.out 2).trans rfl
                have hcz24_3 : wc.cell? ⟨gb103, 3, none⟩ = some (.int .u32 a0_3) := (blk_cell BK103.out 3).trans rfl
                have hfz24_0 := blk_frozen BK103.out 0
                have hfz24_1 := blk_frozen BK103.out 1
                have hfz24_2 := blk_frozen BK103.out 2
                have hfz24_3 := blk_frozen BK103.out 3
                go_wp2
                go_ret
                exact ⟨by first | rfl | (simp [errW_none, errW_some] <;> rfl) | (simp [*, errW_none, errW_some] <;> rfl), by repeat (first | (with_reducible first | exact HB.out | apply below_alloc | apply pw_below_drewN | apply below_drew1 | refine below_set ?_ GE103.out) | exact HB.out)⟩
            · rw [if_neg c21] at H
              have c21b0 : (t105 == 112) = false := beq_eq_false_iff_ne.mpr c21
              have c21b1 : (t105 != 112) = true := bne_iff_ne.mpr c21
              obtain rfl := Option.some.inj H
              go_wp2
              go_ret
              exact ⟨by first | rfl | (simp [errW_none, errW_some] <;> rfl) | (simp [*, errW_none, errW_some] <;> rfl), by repeat (first | (with_reducible first | exact HB.out | apply below_alloc | apply pw_below_drewN | apply below_drew1 | refine below_set ?_ GE103.out) | exact HB.out)⟩

/-! ### verify_jumps: function 82 -/
def verify_jumps.f (a0_0 : Int) (a0_1 : Int) (a0_2 : Int) (a0_3 : Int) : Option (List Int) := (code_Kind.f a0_0).bind fun t107 => (if t107 = 11 then (some (([IntKind.u64.wrap (a0_3)] : List Int))) else (if t107 = 12 then (some (([IntKind.u64.wrap (a0_1), IntKind.u64.wrap (a0_2)] : List Int))) else (if t107 = 13 then (some ([] : List Int)) else (if t107 = 14 then (some ([] : List Int)) else (some (([0] : List Int)))))))
set_option maxHeartbeats 8000000 in
set_option maxRecDepth 100000 in
theorem verify_jumps.calls (a0_0 : Int) (a0_1 : Int) (a0_2 : Int) (a0_3 : Int) (r : List Int) (w : World) (h : verify_jumps.f a0_0 a0_1 a0_2 a0_3 = some r) :
    Calls Try.prog 82 #[.agg #[.int .u16 a0_0, .int .u8 a0_1, .int .u8 a0_2, .int .u32 a0_3]] w fun e w' => ∃ v0_ : Value, e = .returned (v0_) ∧ Kd.R (Kd.int .u64) 65 w' w.heap.size (fun _ => True) v0_ r ∧ Below w.heap.size w w' := by
  have hu56 := Try.underlying56
  have HB := Aside0.mk (Below.refl w.heap.size w)
  have H : ((code_Kind.f a0_0).bind fun t107 => (if t107 = 11 then (some (([IntKind.u64.wrap (a0_3)] : List Int))) else (if t107 = 12 then (some (([IntKind.u64.wrap (a0_1), IntKind.u64.wrap (a0_2)] : List Int))) else (if t107 = 13 then (some ([] : List Int)) else (if t107 = 14 then (some ([] : List Int)) else (some (([0] : List Int)))))))) = some r := h
  clear h
  replace H := Option.bind_eq_some_iff.mp H
  obtain ⟨t107, A20, H⟩ := H
  replace H : (if t107 = 11 then (some (([IntKind.u64.wrap (a0_3)] : List Int))) else (if t107 = 12 then (some (([IntKind.u64.wrap (a0_1), IntKind.u64.wrap (a0_2)] : List Int))) else (if t107 = 13 then (some ([] : List Int)) else (if t107 = 14 then (some ([] : List Int)) else (some (([0] : List Int))))))) = some r := H
  have A2 := Aside0.mk A20
  clear A20
  by_cases c3 : t107 = 11
  · rw [if_pos c3] at H
    have c3b0 : (t107 == 11) = true := beq_iff_eq.mpr c3
    have c3b1 : (t107 != 11) = false := bne_eq_false_iff_eq.mpr c3
    clear c3
    obtain ⟨y108, hy108⟩ : ∃ y_ : List Int, y_ = (([IntKind.u64.wrap (a0_3)] : List Int)) := ⟨_, rfl⟩
    replace H : (some y108) = some r := by first | (rw [hy108]; with_reducible exact H) | (have H2_ := (Option.bind_some _ _).symm.trans H; rw [hy108]; with_reducible exact H2_) | (have H2_ := (Option.bind_some _ _).symm.trans H; with_reducible exact H2_) | with_reducible exact H | (rw [hy108]; exact H) | exact H
    have Ny108 := Aside0.mk hy108
    clear hy108
    obtain rfl := Option.some.inj H
    go_enter Try.func82, Try.ntmps82
    go_wp2_with (first | ((with_reducible refine gate_dst (N := 1) rfl ?_); refine box_event ?hg (N := 1) ?hd (cs := #[.int .u16 a0_0, .int .u8 a0_1, .int .u8 a0_2, .int .u32 a0_3]) (t := 56) ?hr ?_; (case hd => rfl); (case hg => rfl); (case hr => first | (go_simp; done) | (go_simp; rfl)); intro gb106 hg w4 hbox hb; have n0_ := Aside0.mk (below_step (by repeat (first | (with_reducible first | exact HB.out | apply below_alloc | apply pw_below_drewN | apply below_drew1) | exact HB.out)) hb); have n1_ := Aside0.mk (hbox); have n2_ := Aside0.mk ((by rw [hg]; exact (below_size (by repeat (first | (with_reducible first | exact HB.out | apply below_alloc | apply pw_below_drewN | apply below_drew1) | exact HB.out))) : w.heap.size ≤ gb106)); have n3_ := Aside0.mk ((by rw [hg]; exact (below_size (by repeat (first | (with_reducible first | exact HB.out | apply below_alloc | apply pw_below_drewN | apply below_drew1) | exact HB.out))) : w.heap.size ≤ gb106)); clear HB; have HB := n0_; have BK106 := n1_; have GW106 := n2_; have GE106 := n3_; clear n0_ n1_ n2_ n3_; clear hb hbox hg; have hcz5_0 : w4.cell? ⟨gb106, 0, none⟩ = some (.int .u16 a0_0) := (blk_cell BK106.out 0).trans rfl; have hcz5_1 : w4.cell? ⟨gb106, 1, none⟩ = some (.int .u8 a0_1) := (blk_cell BK106.out 1).trans rfl; have hcz5_2 : w4.cell? ⟨gb106, 2, none⟩ = some (.int .u8 a0_2) := (blk_cell BK106.out 2).trans rfl; have hcz5_3 : w4.cell? ⟨gb106, 3, none⟩ = some (.int .u32 a0_3) := (blk_cell BK106.out 3).trans rfl; have hfz5_0 := blk_frozen BK106.out 0; have hfz5_1 := blk_frozen BK106.out 1; have hfz5_2 := blk_frozen BK106.out 2; have hfz5_3 := blk_frozen BK106.out 3) | ((with_reducible refine gate_callee (f := 78) rfl ?_); refine goesL_ (some 5) rfl rfl Try.func78 (by kernel_rfl) rfl #[.int .u16 a0_0] rfl (by (try simp only [List.map_toArray, List.map_cons, List.map_nil]); first | done | rfl | (simp only [List.length_drop, List.length_take]; rfl)) ?_; (with_reducible refine (code_Kind.calls a0_0 t107 _ A2.out).mono ?_); rintro e w6 ⟨rfl, hb⟩; refine ⟨_, rfl, ?_⟩; have n0_ := Aside0.mk (blk_below (g := gb106) (o := .cells #[.int .u16 a0_0, .int .u8 a0_1, .int .u8 a0_2, .int .u32 a0_3] 56 (0, 0)) (by (with_reducible repeat (first | refine blk_drewN ?_ _ | refine blk_drew ?_ | refine blk_alloc ?_ _)); exact BK106.out) hb); have n1_ := Aside0.mk (below_step (by repeat (first | (with_reducible first | exact HB.out | apply below_alloc | apply pw_below_drewN | apply below_drew1 | refine below_set ?_ GE106.out) | exact HB.out)) hb); clear BK106; clear HB; have BK106 := n0_; have HB := n1_; clear n0_ n1_; (try clear hb); (try clear hb2); (try clear hk); (try clear hi); have hcz7_0 : w6.cell? ⟨gb106, 0, none⟩ = some (.int .u16 a0_0) := (blk_cell BK106.out 0).trans rfl; have hcz7_1 : w6.cell? ⟨gb106, 1, none⟩ = some (.int .u8 a0_1) := (blk_cell BK106.out 1).trans rfl; have hcz7_2 : w6.cell? ⟨gb106, 2, none⟩ = some (.int .u8 a0_2) := (blk_cell BK106.out 2).trans rfl; have hcz7_3 : w6.cell? ⟨gb106, 3, none⟩ = some (.int .u32 a0_3) := (blk_cell BK106.out 3).trans rfl; have hfz7_0 := blk_frozen BK106.out 0; have hfz7_1 := blk_frozen BK106.out 1; have hfz7_2 := blk_frozen BK106.out 2; have hfz7_3 := blk_frozen BK106.out 3) | ((with_reducible refine gate_dst (N := 11) rfl ?_); refine Kd.R_lit (Kd.int .u64) _ 65 ?hg (N := 11) ?hd (xs := ([IntKind.u64.wrap (a0_3)] : List Int)) (inner := [.int .u64 (IntKind.u64.wrap (a0_3))]) (ok := fun _ => True) (okp := fun _ => True) ?hr ?hp (fun _ hk => hk) trivial (Below.refl _ _) (Nat.le_refl _) (by simp) ?_; (case hd => rfl); (case hg => rfl); (case hr => first | (go_simp; done) | (go_simp; rfl)); (case hp => exact (Reps.one (show Kd.M (Kd.int .u64) _ _ _ (IntKind.u64.wrap (a0_3)) [.int .u64 (IntKind.u64.wrap (a0_3))] from rfl) (Reps.none _ _))); intro v109 w8 ho9 hb hg_ hnew_; clear hg_ hnew_; (first | rw [← Ny108.out] at ho9 | (simp only [Int.reduceToNat] at ho9; rw [← Ny108.out] at ho9)); have n0_ := Aside0.mk (Kd.R_lower ho9 (below_size (by repeat (first | (with_reducible first | exact HB.out | apply below_alloc | apply pw_below_drewN | apply below_drew1 | refine below_set ?_ GE106.out) | exact HB.out)))); have n1_ := Aside0.mk (blk_below (g := gb106) (o := .cells #[.int .u16 a0_0, .int .u8 a0_1, .int .u8 a0_2, .int .u32 a0_3] 56 (0, 0)) (by (with_reducible repeat (first | refine blk_drewN ?_ _ | refine blk_drew ?_ | refine blk_alloc ?_ _)); exact BK106.out) hb); have n2_ := Aside0.mk (below_step (by repeat (first | (with_reducible first | exact HB.out | apply below_alloc | apply pw_below_drewN | apply below_drew1 | refine below_set ?_ GE106.out) | exact HB.out)) hb); clear BK106; clear HB; have HO110 := n0_; have BK106 := n1_; have HB := n2_; clear n0_ n1_ n2_; clear hb ho9))
    go_ret
    exact ⟨_, by first | rfl | (simp [errW_none, errW_some] <;> rfl) | (simp [*, errW_none, errW_some] <;> rfl), by (with_reducible repeat (first | apply Kd.R_alloc | apply Kd.R_drewN | apply Kd.R_drew)); exact HO110.out, by repeat (first | (with_reducible first | exact HB.out | apply below_alloc | apply pw_below_drewN | apply below_drew1 | refine below_set ?_ GE106.out) | exact HB.out)⟩
  · rw [if_neg c3] at H
    have c3b0 : (t107 == 11) = false := beq_eq_false_iff_ne.mpr c3
    have c3b1 : (t107 != 11) = true := bne_iff_ne.mpr c3
    by_cases c10 : t107 = 12
    · rw [if_pos c10] at H
      have c10b0 : (t107 == 12) = true := beq_iff_eq.mpr c10
      have c10b1 : (t107 != 12) = false := bne_eq_false_iff_eq.mpr c10
      clear c10
      obtain ⟨y111, hy111⟩ : ∃ y_ : List Int, y_ = (([IntKind.u64.wrap (a0_1), IntKind.u64.wrap (a0_2)] : List Int)) := ⟨_, rfl⟩
      replace H : (some y111) = some r := by first | (rw [hy111]; with_reducible exact H) | (have H2_ := (Option.bind_some _ _).symm.trans H; rw [hy111]; with_reducible exact H2_) | (have H2_ := (Option.bind_some _ _).symm.trans H; with_reducible exact H2_) | with_reducible exact H | (rw [hy111]; exact H) | exact H
      have Ny111 := Aside0.mk hy111
      clear hy111
      obtain rfl := Option.some.inj H
      go_enter Try.func82, Try.ntmps82
      go_wp2_with (first | ((with_reducible refine gate_dst (N := 1) rfl ?_); refine box_event ?hg (N := 1) ?hd (cs := #[.int .u16 a0_0, .int .u8 a0_1, .int .u8 a0_2, .int .u32 a0_3]) (t := 56) ?hr ?_; (case hd => rfl); (case hg => rfl); (case hr => first | (go_simp; done) | (go_simp; rfl)); intro gb106 hg w11 hbox hb; have n0_ := Aside0.mk (below_step (by repeat (first | (with_reducible first | exact HB.out | apply below_alloc | apply pw_below_drewN | apply below_drew1) | exact HB.out)) hb); have n1_ := Aside0.mk (hbox); have n2_ := Aside0.mk ((by rw [hg]; exact (below_size (by repeat (first | (with_reducible first | exact HB.out | apply below_alloc | apply pw_below_drewN | apply below_drew1) | exact HB.out))) : w.heap.size ≤ gb106)); have n3_ := Aside0.mk ((by rw [hg]; exact (below_size (by repeat (first | (with_reducible first | exact HB.out | apply below_alloc | apply pw_below_drewN | apply below_drew1) | exact HB.out))) : w.heap.size ≤ gb106)); clear HB; have HB := n0_; have BK106 := n1_; have GW106 := n2_; have GE106 := n3_; clear n0_ n1_ n2_ n3_; clear hb hbox hg; have hcz12_0 : w11.cell? ⟨gb106, 0, none⟩ = some (.int .u16 a0_0) := (blk_cell BK106.out 0).trans rfl; have hcz12_1 : w11.cell? ⟨gb106, 1, none⟩ = some (.int .u8 a0_1) := (blk_cell BK106.out 1).trans rfl; have hcz12_2 : w11.cell? ⟨gb106, 2, none⟩ = some (.int .u8 a0_2) := (blk_cell BK106.out 2).trans rfl; have hcz12_3 : w11.cell? ⟨gb106, 3, none⟩ = some (.int .u32 a0_3) := (blk_cell BK106.out 3).trans rfl; have hfz12_0 := blk_frozen BK106.out 0; have hfz12_1 := blk_frozen BK106.out 1; have hfz12_2 := blk_frozen BK106.out 2; have hfz12_3 := blk_frozen BK106.out 3) | ((with_reducible refine gate_callee (f := 78) rfl ?_); refine goesL_ (some 5) rfl rfl Try.func78 (by kernel_rfl) rfl #[.int .u16 a0_0] rfl (by (try simp only [List.map_toArray, List.map_cons, List.map_nil]); first | done | rfl | (simp only [List.length_drop, List.length_take]; rfl)) ?_; (with_reducible refine (code_Kind.calls a0_0 t107 _ A2.out).mono ?_); rintro e w13 ⟨rfl, hb⟩; refine ⟨_, rfl, ?_⟩; have n0_ := Aside0.mk (blk_below (g := gb106) (o := .cells #[.int .u16 a0_0, .int .u8 a0_1, .int .u8 a0_2, .int .u32 a0_3] 56 (0, 0)) (by (with_reducible repeat (first | refine blk_drewN ?_ _ | refine blk_drew ?_ | refine blk_alloc ?_ _)); exact BK106.out) hb); have n1_ := Aside0.mk (below_step (by repeat (first | (with_reducible first | exact HB.out | apply below_alloc | apply pw_below_drewN | apply below_drew1 | refine below_set ?_ GE106.out) | exact HB.out)) hb); clear BK106; clear HB; have BK106 := n0_; have HB := n1_; clear n0_ n1_; (try clear hb); (try clear hb2); (try clear hk); (try clear hi); have hcz14_0 : w13.cell? ⟨gb106, 0, none⟩ = some (.int .u16 a0_0) := (blk_cell BK106.out 0).trans rfl; have hcz14_1 : w13.cell? ⟨gb106, 1, none⟩ = some (.int .u8 a0_1) := (blk_cell BK106.out 1).trans rfl; have hcz14_2 : w13.cell? ⟨gb106, 2, none⟩ = some (.int .u8 a0_2) := (blk_cell BK106.out 2).trans rfl; have hcz14_3 : w13.cell? ⟨gb106, 3, none⟩ = some (.int .u32 a0_3) := (blk_cell BK106.out 3).trans rfl; have hfz14_0 := blk_frozen BK106.out 0; have hfz14_1 := blk_frozen BK106.out 1; have hfz14_2 := blk_frozen BK106.out 2; have hfz14_3 := blk_frozen BK106.out 3) | ((with_reducible refine gate_dst (N := 20) rfl ?_); refine Kd.R_lit (Kd.int .u64) _ 65 ?hg (N := 20) ?hd (xs := ([IntKind.u64.wrap (a0_1), IntKind.u64.wrap (a0_2)] : List Int)) (inner := [.int .u64 (IntKind.u64.wrap (a0_1)), .int .u64 (IntKind.u64.wrap (a0_2))]) (ok := fun _ => True) (okp := fun _ => True) ?hr ?hp (fun _ hk => hk) trivial (Below.refl _ _) (Nat.le_refl _) (by simp) ?_; (case hd => rfl); (case hg => rfl); (case hr => first | (go_simp; done) | (go_simp; rfl)); (case hp => exact (Reps.one (show Kd.M (Kd.int .u64) _ _ _ (IntKind.u64.wrap (a0_1)) [.int .u64 (IntKind.u64.wrap (a0_1))] from rfl) (Reps.one (show Kd.M (Kd.int .u64) _ _ _ (IntKind.u64.wrap (a0_2)) [.int .u64 (IntKind.u64.wrap (a0_2))] from rfl) (Reps.none _ _)))); intro v112 w15 ho16 hb hg_ hnew_; clear hg_ hnew_; (first | rw [← Ny111.out] at ho16 | (simp only [Int.reduceToNat] at ho16; rw [← Ny111.out] at ho16)); have n0_ := Aside0.mk (Kd.R_lower ho16 (below_size (by repeat (first | (with_reducible first | exact HB.out | apply below_alloc | apply pw_below_drewN | apply below_drew1 | refine below_set ?_ GE106.out) | exact HB.out)))); have n1_ := Aside0.mk (blk_below (g := gb106) (o := .cells #[.int .u16 a0_0, .int .u8 a0_1, .int .u8 a0_2, .int .u32 a0_3] 56 (0, 0)) (by (with_reducible repeat (first | refine blk_drewN ?_ _ | refine blk_drew ?_ | refine blk_alloc ?_ _)); exact BK106.out) hb); have n2_ := Aside0.mk (below_step (by repeat (first | (with_reducible first | exact HB.out | apply below_alloc | apply pw_below_drewN | apply below_drew1 | refine below_set ?_ GE106.out) | exact HB.out)) hb); clear BK106; clear HB; have HO113 := n0_; have BK106 := n1_; have HB := n2_; clear n0_ n1_ n2_; clear hb ho16))
      go_ret
      exact ⟨_, by first | rfl | (simp [errW_none, errW_some] <;> rfl) | (simp [*, errW_none, errW_some] <;> rfl), by (with_reducible repeat (first | apply Kd.R_alloc | apply Kd.R_drewN | apply Kd.R_drew)); exact HO113.out, by repeat (first | (with_reducible first | exact HB.out | apply below_alloc | apply pw_below_drewN | apply below_drew1 | refine below_set ?_ GE106.out) | exact HB.out)⟩
    · rw [if_neg c10] at H
      have c10b0 : (t107 == 12) = false := beq_eq_false_iff_ne.mpr c10
      have c10b1 : (t107 != 12) = true := bne_iff_ne.mpr c10
      by_cases c17 : t107 = 13
      · rw [if_pos c17] at H
        have c17b0 : (t107 == 13) = true := beq_iff_eq.mpr c17
        have c17b1 : (t107 != 13) = false := bne_eq_false_iff_eq.mpr c17
        clear c17
        obtain rfl := Option.some.inj H
        go_enter Try.func82, Try.ntmps82
        go_wp2_with (first | ((with_reducible refine gate_dst (N := 1) rfl ?_); refine box_event ?hg (N := 1) ?hd (cs := #[.int .u16 a0_0, .int .u8 a0_1, .int .u8 a0_2, .int .u32 a0_3]) (t := 56) ?hr ?_; (case hd => rfl); (case hg => rfl); (case hr => first | (go_simp; done) | (go_simp; rfl)); intro gb106 hg w18 hbox hb; have n0_ := Aside0.mk (below_step (by repeat (first | (with_reducible first | exact HB.out | apply below_alloc | apply pw_below_drewN | apply below_drew1) | exact HB.out)) hb); have n1_ := Aside0.mk (hbox); have n2_ := Aside0.mk ((by rw [hg]; exact (below_size (by repeat (first | (with_reducible first | exact HB.out | apply below_alloc | apply pw_below_drewN | apply below_drew1) | exact HB.out))) : w.heap.size ≤ gb106)); have n3_ := Aside0.mk ((by rw [hg]; exact (below_size (by repeat (first | (with_reducible first | exact HB.out | apply below_alloc | apply pw_below_drewN | apply below_drew1) | exact HB.out))) : w.heap.size ≤ gb106)); clear HB; have HB := n0_; have BK106 := n1_; have GW106 := n2_; have GE106 := n3_; clear n0_ n1_ n2_ n3_; clear hb hbox hg; have hcz19_0 : w18.cell? ⟨gb106, 0, none⟩ = some (.int .u16 a0_0) := (blk_cell BK106.out 0).trans rfl; have hcz19_1 : w18.cell? ⟨gb106, 1, none⟩ = some (.int .u8 a0_1) := (blk_cell BK106.out 1).trans rfl; have hcz19_2 : w18.cell? ⟨gb106, 2, none⟩ = some (.int .u8 a0_2) := (blk_cell BK106.out 2).trans rfl; have hcz19_3 : w18.cell? ⟨gb106, 3, none⟩ = some (.int .u32 a0_3) := (blk_cell BK106.out 3).trans rfl; have hfz19_0 := blk_frozen BK106.out 0; have hfz19_1 := blk_frozen BK106.out 1; have hfz19_2 := blk_frozen BK106.out 2; have hfz19_3 := blk_frozen BK106.out 3) | ((with_reducible refine gate_callee (f := 78) rfl ?_); refine goesL_ (some 5) rfl rfl Try.func78 (by kernel_rfl) rfl #[.int .u16 a0_0] rfl (by (try simp only [List.map_toArray, List.map_cons, List.map_nil]); first | done | rfl | (simp only [List.length_drop, List.length_take]; rfl)) ?_; (with_reducible refine (code_Kind.calls a0_0 t107 _ A2.out).mono ?_); rintro e w20 ⟨rfl, hb⟩; refine ⟨_, rfl, ?_⟩; have n0_ := Aside0.mk (blk_below (g := gb106) (o := .cells #[.int .u16 a0_0, .int .u8 a0_1, .int .u8 a0_2, .int .u32 a0_3] 56 (0, 0)) (by (with_reducible repeat (first | refine blk_drewN ?_ _ | refine blk_drew ?_ | refine blk_alloc ?_ _)); exact BK106.out) hb); have n1_ := Aside0.mk (below_step (by repeat (first | (with_reducible first | exact HB.out | apply below_alloc | apply pw_below_drewN | apply below_drew1 | refine below_set ?_ GE106.out) | exact HB.out)) hb); clear BK106; clear HB; have BK106 := n0_; have HB := n1_; clear n0_ n1_; (try clear hb); (try clear hb2); (try clear hk); (try clear hi)))
        go_ret
        exact ⟨_, by first | rfl | (simp [errW_none, errW_some] <;> rfl) | (simp [*, errW_none, errW_some] <;> rfl), by first | exact Kd.R_nil _ _ _ _ _ | exact Kd.N_nil _ _ _ _ _ | exact Kd.V_nil _ _ _ _ _ | exact Kd.Q_nil _ _ _ _ _ | exact Kd.S_nil _ _ _ _ _, by repeat (first | (with_reducible first | exact HB.out | apply below_alloc | apply pw_below_drewN | apply below_drew1 | refine below_set ?_ GE106.out) | exact HB.out)⟩
      · rw [if_neg c17] at H
        have c17b0 : (t107 == 13) = false := beq_eq_false_iff_ne.mpr c17
        have c17b1 : (t107 != 13) = true := bne_iff_ne.mpr c17
        by_cases c21 : t107 = 14
        · rw [if_pos c21] at H
          have c21b0 : (t107 == 14) = true := beq_iff_eq.mpr c21
          have c21b1 : (t107 != 14) = false := bne_eq_false_iff_eq.mpr c21
          clear c21
          obtain rfl := Option.some.inj H
          go_enter Try.func82, Try.ntmps82
          go_wp2_with (first | ((with_reducible refine gate_dst (N := 1) rfl ?_); refine box_event ?hg (N := 1) ?hd (cs := #[.int .u16 a0_0, .int .u8 a0_1, .int .u8 a0_2, .int .u32 a0_3]) (t := 56) ?hr ?_; (case hd => rfl); (case hg => rfl); (case hr => first | (go_simp; done) | (go_simp; rfl)); intro gb106 hg w22 hbox hb; have n0_ := Aside0.mk (below_step (by repeat (first | (with_reducible first | exact HB.out | apply below_alloc | apply pw_below_drewN | apply below_drew1) | exact HB.out)) hb); have n1_ := Aside0.mk (hbox); have n2_ := Aside0.mk ((by rw [hg]; exact (below_size (by repeat (first | (with_reducible first | exact HB.out | apply below_alloc | apply pw_below_drewN | apply below_drew1) | exact HB.out))) : w.heap.size ≤ gb106)); have n3_ := Aside0.mk ((by rw [hg]; exact (below_size (by repeat (first | (with_reducible first | exact HB.out | apply below_alloc | apply pw_below_drewN | apply below_drew1) | exact HB.out))) : w.heap.size ≤ gb106)); clear HB; have HB := n0_; have BK106 := n1_; have GW106 := n2_; have GE106 := n3_; clear n0_ n1_ n2_ n3_; clear hb hbox hg; have hcz23_0 : w22.cell? ⟨gb106, 0, none⟩ = some (.int .u16 a0_0) := (blk_cell BK106.out 0).trans rfl; have hcz23_1 : w22.cell? ⟨gb106, 1, none⟩ = some (.int .u8 a0_1) := (blk_cell BK106.out 1).trans rfl; have hcz23_2 : w22.cell? ⟨gb106, 2, none⟩ = some (.int .u8 a0_2) := (blk_cell BK106.out 2).trans rfl; have hcz23_3 : w22.cell? ⟨gb106, 3, none⟩ = some (.int .u32 a0_3) := (blk_cell BK106.out 3).trans rfl; have hfz23_0 := blk_frozen BK106.out 0; have hfz23_1 := blk_frozen BK106.out 1; have hfz23_2 := blk_frozen BK106.out 2; have hfz23_3 := blk_frozen BK106.out 3) | ((with_reducible refine gate_callee (f := 78) rfl ?_); refine goesL_ (some 5) rfl rfl Try.func78 (by kernel_rfl) rfl #[.int .u16 a0_0] rfl (by (try simp only [List.map_toArray, List.map_cons, List.map_nil]); first | done | rfl | (simp only [List.length_drop, List.length_take]; rfl)) ?_; (with_reducible refine (code_Kind.calls a0_0 t107 _ A2.out).mono ?_); rintro e w24 ⟨rfl, hb⟩; refine ⟨_, rfl, ?_⟩; have n0_ := Aside0.mk (blk_below (g := gb106) (o := .cells #[.int .u16 a0_0, .int .u8 a0_1, .int .u8 a0_2, .int .u32 a0_3] 56 (0, 0)) (by (with_reducible repeat (first | refine blk_drewN ?_ _ | refine blk_drew ?_ | refine blk_alloc ?_ _)); exact BK106.out) hb); have n1_ := Aside0.mk (below_step (by repeat (first | (with_reducible first | exact HB.out | apply below_alloc | apply pw_below_drewN | apply below_drew1 | refine below_set ?_ GE106.out) | exact HB.out)) hb); clear BK106; clear HB; have BK106 := n0_; have HB := n1_; clear n0_ n1_; (try clear hb); (try clear hb2); (try clear hk); (try clear hi)))
          go_ret
          exact ⟨_, by first | rfl | (simp [errW_none, errW_some] <;> rfl) | (simp [*, errW_none, errW_some] <;> rfl), by first | exact Kd.R_nil _ _ _ _ _ | exact Kd.N_nil _ _ _ _ _ | exact Kd.V_nil _ _ _ _ _ | exact Kd.Q_nil _ _ _ _ _ | exact Kd.S_nil _ _ _ _ _, by repeat (first | (with_reducible first | exact HB.out | apply below_alloc | apply pw_below_drewN | apply below_drew1 | refine below_set ?_ GE106.out) | exact HB.out)⟩
        · rw [if_neg c21] at H
          have c21b0 : (t107 == 14) = false := beq_eq_false_iff_ne.mpr c21
          have c21b1 : (t107 != 14) = true := bne_iff_ne.mpr c21
          obtain ⟨y114, hy114⟩ : ∃ y_ : List Int, y_ = (([0] : List Int)) := ⟨_, rfl⟩
          replace H : (some y114) = some r := by first | (rw [hy114]; with_reducible exact H) | (have H2_ := (Option.bind_some _ _).symm.trans H; rw [hy114]; with_reducible exact H2_) | (have H2_ := (Option.bind_some _ _).symm.trans H; with_reducible exact H2_) | with_reducible exact H | (rw [hy114]; exact H) | exact H
          have Ny114 := Aside0.mk hy114
          clear hy114
          obtain rfl := Option.some.inj H
          go_enter Try.func82, Try.ntmps82
          go_wp2_with (first | ((with_reducible refine gate_dst (N := 1) rfl ?_); refine box_event ?hg (N := 1) ?hd (cs := #[.int .u16 a0_0, .int .u8 a0_1, .int .u8 a0_2, .int .u32 a0_3]) (t := 56) ?hr ?_; (case hd => rfl); (case hg => rfl); (case hr => first | (go_simp; done) | (go_simp; rfl)); intro gb106 hg w25 hbox hb; have n0_ := Aside0.mk (below_step (by repeat (first | (with_reducible first | exact HB.out | apply below_alloc | apply pw_below_drewN | apply below_drew1) | exact HB.out)) hb); have n1_ := Aside0.mk (hbox); have n2_ := Aside0.mk ((by rw [hg]; exact (below_size (by repeat (first | (with_reducible first | exact HB.out | apply below_alloc | apply pw_below_drewN | apply below_drew1) | exact HB.out))) : w.heap.size ≤ gb106)); have n3_ := Aside0.mk ((by rw [hg]; exact (below_size (by repeat (first | (with_reducible first | exact HB.out | apply below_alloc | apply pw_below_drewN | apply below_drew1) | exact HB.out))) : w.heap.size ≤ gb106)); clear HB; have HB := n0_; have BK106 := n1_; have GW106 := n2_; have GE106 := n3_; clear n0_ n1_ n2_ n3_; clear hb hbox hg; have hcz26_0 : w25.cell? ⟨gb106, 0, none⟩ = some (.int .u16 a0_0) := (blk_cell BK106.out 0).trans rfl; have hcz26_1 : w25.cell? ⟨gb106, 1, none⟩ = some (.int .u8 a0_1) := (blk_cell BK106.out 1).trans rfl; have hcz26_2 : w25.cell? ⟨gb106, 2, none⟩ = some (.int .u8 a0_2) := (blk_cell BK106.out 2).trans rfl; have hcz26_3 : w25.cell? ⟨gb106, 3, none⟩ = some (.int .u32 a0_3) := (blk_cell BK106.out 3).trans rfl; have hfz26_0 := blk_frozen BK106.out 0; have hfz26_1 := blk_frozen BK106.out 1; have hfz26_2 := blk_frozen BK106.out 2; have hfz26_3 := blk_frozen BK106.out 3) | ((with_reducible refine gate_callee (f := 78) rfl ?_); refine goesL_ (some 5) rfl rfl Try.func78 (by kernel_rfl) rfl #[.int .u16 a0_0] rfl (by (try simp only [List.map_toArray, List.map_cons, List.map_nil]); first | done | rfl | (simp only [List.length_drop, List.length_take]; rfl)) ?_; (with_reducible refine (code_Kind.calls a0_0 t107 _ A2.out).mono ?_); rintro e w27 ⟨rfl, hb⟩; refine ⟨_, rfl, ?_⟩; have n0_ := Aside0.mk (blk_below (g := gb106) (o := .cells #[.int .u16 a0_0, .int .u8 a0_1, .int .u8 a0_2, .int .u32 a0_3] 56 (0, 0)) (by (with_reducible repeat (first | refine blk_drewN ?_ _ | refine blk_drew ?_ | refine blk_alloc ?_ _)); exact BK106.out) hb); have n1_ := Aside0.mk (below_step (by repeat (first | (with_reducible first | exact HB.out | apply below_alloc | apply pw_below_drewN | apply below_drew1 | refine below_set ?_ GE106.out) | exact HB.out)) hb); clear BK106; clear HB; have BK106 := n0_; have HB := n1_; clear n0_ n1_; (try clear hb); (try clear hb2); (try clear hk); (try clear hi)) | ((with_reducible refine gate_dst (N := 24) rfl ?_); refine Kd.R_lit (Kd.int .u64) _ 65 ?hg (N := 24) ?hd (xs := ([0] : List Int)) (inner := [.int .u64 0]) (ok := fun _ => True) (okp := fun _ => True) ?hr ?hp (fun _ hk => hk) trivial (Below.refl _ _) (Nat.le_refl _) (by simp) ?_; (case hd => rfl); (case hg => rfl); (case hr => first | (go_simp; done) | (go_simp; rfl)); (case hp => exact (Reps.one (show Kd.M (Kd.int .u64) _ _ _ 0 [.int .u64 0] from rfl) (Reps.none _ _))); intro v115 w28 ho29 hb hg_ hnew_; clear hg_ hnew_; (first | rw [← Ny114.out] at ho29 | (simp only [Int.reduceToNat] at ho29; rw [← Ny114.out] at ho29)); have n0_ := Aside0.mk (Kd.R_lower ho29 (below_size (by repeat (first | (with_reducible first | exact HB.out | apply below_alloc | apply pw_below_drewN | apply below_drew1 | refine below_set ?_ GE106.out) | exact HB.out)))); have n1_ := Aside0.mk (blk_below (g := gb106) (o := .cells #[.int .u16 a0_0, .int .u8 a0_1, .int .u8 a0_2, .int .u32 a0_3] 56 (0, 0)) (by (with_reducible repeat (first | refine blk_drewN ?_ _ | refine blk_drew ?_ | refine blk_alloc ?_ _)); exact BK106.out) hb); have n2_ := Aside0.mk (below_step (by repeat (first | (with_reducible first | exact HB.out | apply below_alloc | apply pw_below_drewN | apply below_drew1 | refine below_set ?_ GE106.out) | exact HB.out)) hb); clear BK106; clear HB; have HO116 := n0_; have BK106 := n1_; have HB := n2_; clear n0_ n1_ n2_; clear hb ho29))
          go_ret
          exact ⟨_, by first | rfl | (simp [errW_none, errW_some] <;> rfl) | (simp [*, errW_none, errW_some] <;> rfl), by (with_reducible repeat (first | apply Kd.R_alloc | apply Kd.R_drewN | apply Kd.R_drew)); exact HO116.out, by repeat (first | (with_reducible first | exact HB.out | apply below_alloc | apply pw_below_drewN | apply below_drew1 | refine below_set ?_ GE106.out) | exact HB.out)⟩

/-! ### verify_out: function 81 -/
def verify_out.l0 : Nat → List (S56) → Int → List Int → Int → Int → Option (Int)
  | 0, _, _, _, _, _ => none
  | k + 1, x0, x1, x11, x12, x13 => if x13 < x12 then (if 0 ≤ x13 then (if x13 < (x11.length : Int) then (if (IntKind.u64.wrap ((IntKind.u64.wrap ((IntKind.u64.wrap (x1)) + 1)) + (rd x11 x13))) ≥ (IntKind.u64.wrap ((x0.length : Int))) then (some 7) else (verify_out.l0 k x0 x1 x11 x12 (wrap64 (x13 + 1)))) else (none)) else (none)) else (some 0)
def verify_out.f (k : Nat) (l0 : List (S56)) (a1 : Int) : Option (Int) := if 0 ≤ a1 then (if a1 < (l0.length : Int) then ((verify_jumps.f ((rd_T56 l0 a1).f0) ((rd_T56 l0 a1).f1) ((rd_T56 l0 a1).f2) ((rd_T56 l0 a1).f3)).bind fun t118 => (verify_out.l0 k l0 a1 t118 (t118.length : Int) 0)) else (none)) else (none)
theorem verify_out.mono_l : ∀ k, (∀ y0 y1 y2 y3 y4, LeO (verify_out.l0 k y0 y1 y2 y3 y4) (verify_out.l0 (k + 1) y0 y1 y2 y3 y4))
  | 0 => fun _ _ _ _ _ r h => by simp [verify_out.l0] at h
  | k + 1 => by
    have ih0 := verify_out.mono_l k
    · intro y0 y1 y2 y3 y4
      unfold verify_out.l0
      repeat' first
      | (with_reducible exact ih0 _ _ _ _ _)
      | (with_reducible exact LeO.refl _)
      | (with_reducible exact LeO.none _)
      | (with_reducible refine LeO.ite ?_ ?_)
      | (with_reducible refine LeO.bind ?_ (fun _ => ?_))
      | exact ih0 _ _ _ _ _
      | exact LeO.none _
      | refine LeO.ite ?_ ?_
      | refine LeO.bind ?_ (fun _ => ?_)
theorem verify_out.mono : ∀ a0 a1 k, LeO (verify_out.f k a0 a1) (verify_out.f (k + 1) a0 a1) := by
  intro a0 a1 k
  have ih0 := verify_out.mono_l k
  unfold verify_out.f
  repeat' first
      | (with_reducible exact ih0 _ _ _ _ _)
      | (with_reducible exact LeO.refl _)
      | (with_reducible exact LeO.none _)
      | (with_reducible refine LeO.ite ?_ ?_)
      | (with_reducible refine LeO.bind ?_ (fun _ => ?_))
      | exact ih0 _ _ _ _ _
      | exact LeO.none _
      | refine LeO.ite ?_ ?_
      | refine LeO.bind ?_ (fun _ => ?_)
set_option maxHeartbeats 8000000 in
set_option maxRecDepth 100000 in
theorem verify_out.calls (k : Nat) (A0 : Option Addr) (c0 : Nat) (l0 : List (S56)) (a1 : Int) (r : Int) (w : World) (hr0 : Kd.C k56 w A0 l0.length l0) (hc0 : l0.length ≤ c0) (h : verify_out.f k l0 a1 = some r) :
    Calls Try.prog 81 #[.slice A0 l0.length c0, .int .i64 a1] w fun e w' => e = .returned (.int .i64 r) ∧ Below w.heap.size w w' := by
  have hu56 := Try.underlying56
  have HR0 := Aside0.mk hr0
  have HC0 := Aside0.mk hc0
  clear hr0 hc0
  have HB := Aside0.mk (Below.refl w.heap.size w)
  have H : (if 0 ≤ a1 then (if a1 < (l0.length : Int) then ((verify_jumps.f ((rd_T56 l0 a1).f0) ((rd_T56 l0 a1).f1) ((rd_T56 l0 a1).f2) ((rd_T56 l0 a1).f3)).bind fun t118 => (verify_out.l0 k l0 a1 t118 (t118.length : Int) 0)) else (none)) else (none)) = some r := h
  clear h
  by_cases c3 : 0 ≤ a1
  · rw [if_pos c3] at H
    have c3b0 : decide (0 ≤ a1) = true := decide_eq_true c3
    clear c3
    by_cases c4 : a1 < (l0.length : Int)
    · rw [if_pos c4] at H
      have c4b0 : decide (a1 < (l0.length : Int)) = true := decide_eq_true c4
      clear c4
      replace H := Option.bind_eq_some_iff.mp H
      obtain ⟨t118, A50, H⟩ := H
      replace H : (verify_out.l0 k l0 a1 t118 (t118.length : Int) 0) = some r := H
      have A5 := Aside0.mk A50
      clear A50
      have H' := Aside0.mk H
      clear H
      have p117 : 0 ≤ (a1 : Int) := of_decide_eq_true (by first | (with_reducible assumption) | assumption)
      have q117 : a1 < (l0.length : Int) := of_decide_eq_true (by first | (with_reducible assumption) | assumption)
      obtain ⟨ad117, e117, hx117_0, hx117_1, hx117_2, hx117_3⟩ := at_T56 HR0.out a1 p117 q117
      cases e117
      replace p117 := eq_true p117
      replace q117 := eq_true q117
      go_enter Try.func81, Try.ntmps81
      go_wp2_with (first | ((with_reducible refine gate_callee (f := 82) rfl ?_); refine goesL_ (some 11) rfl rfl Try.func82 (by kernel_rfl) rfl #[.agg #[.int .u16 ((rd_T56 l0 a1).f0), .int .u8 ((rd_T56 l0 a1).f1), .int .u8 ((rd_T56 l0 a1).f2), .int .u32 ((rd_T56 l0 a1).f3)]] rfl (by (try simp only [List.map_toArray, List.map_cons, List.map_nil]); first | done | rfl | (simp only [List.length_drop, List.length_take]; rfl)) ?_; (with_reducible refine (verify_jumps.calls ((rd_T56 l0 a1).f0) ((rd_T56 l0 a1).f1) ((rd_T56 l0 a1).f2) ((rd_T56 l0 a1).f3) t118 _ A5.out).mono ?_); rintro e w6 ⟨v119, rfl, ho0, hb⟩; refine ⟨_, rfl, ?_⟩; have n0_ := Aside0.mk (Kd.R_lower ho0 (below_size (by repeat (first | (with_reducible first | exact HB.out | apply below_alloc | apply pw_below_drewN | apply below_drew1) | exact HB.out)))); have n1_ := Aside0.mk (below_step (by repeat (first | (with_reducible first | exact HB.out | apply below_alloc | apply pw_below_drewN | apply below_drew1) | exact HB.out)) hb); clear HB; have HO120 := n0_; have HB := n1_; clear n0_ n1_; (try clear hb); (try clear hb2); (try clear hk); (try clear hi); (try clear ho0); obtain ⟨Ao7, co7, eo7⟩ := Kd.R_slice HO120.out; subst eo7))
      go_loopg [13] k (fun kq v13 w' => ∃ (x13_1 : Int), v13 = .int .i64 x13_1 ∧ Aside0 (verify_out.l0 kq l0 a1 t118 (t118.length : Int) x13_1 = some r) ∧ Aside0 (kq ≤ k) ∧ Aside0 (Kd.R (Kd.int .u64) 65 w' w.heap.size (fun _ => True) (.slice Ao7 t118.length co7) t118) ∧ Aside0 (Below w.heap.size w w'))
      case atStart => exact ⟨(0), (by first | rfl | (simp; done) | (simp [*]; done)), H', ⟨Nat.le_refl _⟩, ⟨by (with_reducible repeat (first | apply Kd.R_alloc | apply Kd.R_drewN | apply Kd.R_drew)); exact HO120.out⟩, ⟨by repeat (first | (with_reducible first | exact HB.out | apply below_alloc | apply pw_below_drewN | apply below_drew1) | exact HB.out)⟩⟩
      case round =>
        clear H'
        try clear p1
        try clear q1
        try clear hx1
        try clear p2
        try clear c3
        try clear c3b0
        try clear c4
        try clear c4b0
        try clear hx117_0
        try clear hx117_1
        try clear hx117_2
        try clear hx117_3
        try clear p117
        try clear q117
        obtain ⟨x13_1, rfl, HA, HK1, HO_11, HB⟩ := hrel
        cases gk with
        | zero => exact absurd HA.out (by simp [verify_out.l0])
        | succ k1 =>
          have H := HA.out
          clear HA
          simp only [verify_out.l0] at H
          by_cases c8 : x13_1 < (t118.length : Int)
          · rw [if_pos c8] at H
            have c8b0 : decide (x13_1 < (t118.length : Int)) = true := decide_eq_true c8
            clear c8
            by_cases c9 : 0 ≤ x13_1
            · rw [if_pos c9] at H
              have c9b0 : decide (0 ≤ x13_1) = true := decide_eq_true c9
              clear c9
              by_cases c10 : x13_1 < (t118.length : Int)
              · rw [if_pos c10] at H
                have c10b0 : decide (x13_1 < (t118.length : Int)) = true := decide_eq_true c10
                clear c10
                by_cases c11 : (IntKind.u64.wrap ((IntKind.u64.wrap ((IntKind.u64.wrap (a1)) + 1)) + (rd t118 x13_1))) ≥ (IntKind.u64.wrap ((l0.length : Int)))
                · rw [if_pos c11] at H
                  have c11b0 : decide ((IntKind.u64.wrap ((l0.length : Int))) ≤ (IntKind.u64.wrap ((IntKind.u64.wrap ((IntKind.u64.wrap (a1)) + 1)) + (rd t118 x13_1)))) = true := decide_eq_true c11
                  clear c11
                  obtain rfl := Option.some.inj H
                  have p121 : 0 ≤ (x13_1 : Int) := of_decide_eq_true (by first | (with_reducible assumption) | assumption)
                  have q121 : x13_1 < (t118.length : Int) := of_decide_eq_true (by first | (with_reducible assumption) | assumption)
                  obtain ⟨ad121, e121, hx121_0⟩ := Kd.at_int (Kd.R_reads' HO_11.out).2.2 x13_1 p121 q121
                  cases e121
                  replace p121 := eq_true p121
                  replace q121 := eq_true q121
                  go_wp2
                  go_ret
                  exact ⟨by first | rfl | (simp [errW_none, errW_some] <;> rfl) | (simp [*, errW_none, errW_some] <;> rfl), by repeat (first | (with_reducible first | exact HB.out | apply below_alloc | apply pw_below_drewN | apply below_drew1) | exact HB.out)⟩
                · rw [if_neg c11] at H
                  have c11b0 : decide ((IntKind.u64.wrap ((l0.length : Int))) ≤ (IntKind.u64.wrap ((IntKind.u64.wrap ((IntKind.u64.wrap (a1)) + 1)) + (rd t118 x13_1)))) = false := decide_eq_false c11
                  clear c11
                  have H' := Aside0.mk H
                  clear H
                  have p121 : 0 ≤ (x13_1 : Int) := of_decide_eq_true (by first | (with_reducible assumption) | assumption)
                  have q121 : x13_1 < (t118.length : Int) := of_decide_eq_true (by first | (with_reducible assumption) | assumption)
                  obtain ⟨ad121, e121, hx121_0⟩ := Kd.at_int (Kd.R_reads' HO_11.out).2.2 x13_1 p121 q121
                  cases e121
                  replace p121 := eq_true p121
                  replace q121 := eq_true q121
                  go_wp2
                  go_roundg k1
                  case measure => have := HK1.out; omega
                  case rel => exact ⟨(wrap64 (x13_1 + 1)), (by first | rfl | (simp; done) | (simp [*]; done)), H', ⟨by have := HK1.out; omega⟩, ⟨by (with_reducible repeat (first | apply Kd.R_alloc | apply Kd.R_drewN | apply Kd.R_drew)); exact HO_11.out⟩, ⟨by repeat (first | (with_reducible first | exact HB.out | apply below_alloc | apply pw_below_drewN | apply below_drew1) | exact HB.out)⟩⟩
              · rw [if_neg c10] at H
                exact absurd H (by simp)
            · rw [if_neg c9] at H
              exact absurd H (by simp)
          · rw [if_neg c8] at H
            have c8b0 : decide (x13_1 < (t118.length : Int)) = false := decide_eq_false c8
            clear c8
            obtain rfl := Option.some.inj H
            go_wp2
            go_ret
            exact ⟨by first | rfl | (simp [errW_none, errW_some] <;> rfl) | (simp [*, errW_none, errW_some] <;> rfl), by repeat (first | (with_reducible first | exact HB.out | apply below_alloc | apply pw_below_drewN | apply below_drew1) | exact HB.out)⟩
    · rw [if_neg c4] at H
      exact absurd H (by simp)
  · rw [if_neg c3] at H
    exact absurd H (by simp)

end Go.Proofs.Ytmjpibeiglicdaa.X
