/- tree.Build: what a row comes to. -/
import Derived.Test.YtmjpibeiglicdaaTreeB
namespace Go.Proofs.Ytmjpibeiglicdaa.TreeB
open Go.RowKit Go.Proofs.Ytmjpibeiglicdaa.T Go.Proofs.YtmjpibeiglicdaaV.PrintWords Go.Proofs.YtmjpibeiglicdaaV.PrintLast Go.Proofs.YtmjpibeiglicdaaV.PrintMore
set_option linter.unusedVariables false
set_option linter.unusedSimpArgs false

theorem room1 {items : List S40} (x : S40) (h : items.length + 3 ≤ 1000000) : (items ++ [x]).length + 1 ≤ 1000000 := by
  have e : (items ++ [x]).length = items.length + 1 := List.length_append
  omega
theorem room2 {items : List S40} (x y : S40) (h : items.length + 3 ≤ 1000000) : (items ++ [x] ++ [y]).length + 1 ≤ 1000000 := by
  have e : (items ++ [x]).length = items.length + 1 := List.length_append
  have e' : (items ++ [x] ++ [y]).length = (items ++ [x]).length + 1 := List.length_append
  omega
set_option maxHeartbeats 4000000 in
set_option maxRecDepth 100000 in
theorem leaf_two (w0 w : World) (B : Nat) (items : List S40) (other next lo hi lab : Int) (h : Bld w0 w B items other next) (hl : items.length + 3 ≤ 1000000) (h0 : 0 ≤ next) (h1 : next < 4611686018427387904) (hc0 : (lo == 0) = false) (hc1 : (hi == 4294967295) = false) (hc2 : (lo == hi) = false) :
    Calls Try.prog 99 #[.pointer (some ⟨B, 0, none⟩), .agg #[.int .u32 lo, .int .u32 hi, .int .i64 lab]] w fun e w' => e = .returned (.tuple #[]) ∧ Bld w0 w' B (items ++ [⟨3, 53, lo, next, other⟩, ⟨4, 0, 0, next, 0⟩, ⟨3, 37, hi, other, lab⟩]) other (next + 1) ∧ Keep w w' := by
  have H0 := Aside0.mk h
  clear h
  go_enter Try.func99, Try.ntmps99
  go_wp2_with (first | ((with_reducible refine gate_dst (N := 3) rfl ?_); refine box_event ?hg (N := 3) ?hd (cs := #[.int .u32 lo, .int .u32 hi, .int .i64 lab]) (t := 113) ?hr ?_; (case hd => rfl); (case hg => rfl); (case hr => first | (go_simp; done) | (go_simp; rfl)); intro gb hgb w2 hbox hbb; have hA := Aside0.mk (Bld.below H0.out hbb); have hX := Aside0.mk hbox; have hK0 := Aside0.mk (Keep.of_below hbb); have hgs := Aside0.mk hgb; have c0 : w2.cell? ⟨gb, 0, none⟩ = some (.int .u32 lo) := (blk_cell hbox 0).trans rfl; have c1 : w2.cell? ⟨gb, 1, none⟩ = some (.int .u32 hi) := (blk_cell hbox 1).trans rfl; have c2 : w2.cell? ⟨gb, 2, none⟩ = some (.int .i64 lab) := (blk_cell hbox 2).trans rfl; have k1 : w2.cell? ⟨B, 1, none⟩ = some (.int .i64 other) := Bld.cell1 hA.out; clear hbox hbb hgb H0) | (go_at_call 100; (with_reducible refine (label_calls w0 _ B items other next hA.out (by omega) (by omega)).mono ?_); rintro e w3 ⟨rfl, hb3, hk3⟩; have hA3 := Aside0.mk hb3; have hX3 := Aside0.mk (hk3 _ _ hX.out); have hK3 := Aside0.mk (hK0.out.trans hk3); have d0 : w3.cell? ⟨gb, 0, none⟩ = some (.int .u32 lo) := (blk_cell hX3.out 0).trans rfl; have d1 : w3.cell? ⟨B, 1, none⟩ = some (.int .i64 other) := Bld.cell1 hA3.out; clear hb3 hk3 c0 c1 c2 k1))
  go_still_tail 8, (by kernel_rfl)
  change wpList _ _ _ _ _ w3.drew
  go_wp2_with (first | (go_at_call 101; (with_reducible refine (ask_calls w0 _ B items other (next + 1) 53 lo next other (Bld.drew hA3.out) (by omega)).mono ?_); rintro e w4 ⟨rfl, hb4, hk4⟩; have hA4 := Aside0.mk hb4; have hX4 := Aside0.mk (hk4 _ _ hX3.out); have hK4 := Aside0.mk (hK3.out.trans hk4); clear hb4 hk4 d0 d1) | (go_at_call 102; refine (mark_calls w0 _ B _ other (next + 1) next hA4.out (room1 _ hl)).mono ?_; rintro e w5 ⟨rfl, hb5, hk5⟩; have hA5 := Aside0.mk hb5; have hX5 := Aside0.mk (hk5 _ _ hX4.out); have hK5 := Aside0.mk (hK4.out.trans hk5); have e1 : w5.cell? ⟨gb, 1, none⟩ = some (.int .u32 hi) := (blk_cell hX5.out 1).trans rfl; have e2 : w5.cell? ⟨gb, 2, none⟩ = some (.int .i64 lab) := (blk_cell hX5.out 2).trans rfl; have e3 : w5.cell? ⟨B, 1, none⟩ = some (.int .i64 other) := Bld.cell1 hA5.out; clear hb5 hk5))
  go_still_tail 9, (by kernel_rfl)
  change wpList _ _ _ _ _ w5.drew
  go_wp2_with (go_at_call 101; refine (ask_calls w0 _ B _ other (next + 1) 37 hi other lab (Bld.drew hA5.out) (room2 _ _ hl)).mono ?_; rintro e w6 ⟨rfl, hb6, hk6⟩)
  go_end0
  refine ⟨rfl, ?_, hK5.out.trans hk6⟩
  rw [List.append_assoc, List.append_assoc] at hb6
  exact hb6

theorem leaf_calls (w0 w : World) (B : Nat) (items : List S40) (other next : Int) (x : S113) (h : Bld w0 w B items other next) (hl : items.length + 3 ≤ 1000000) (h0 : 0 ≤ next) (h1 : next < 4611686018427387904) :
    Calls Try.prog 99 #[.pointer (some ⟨B, 0, none⟩), .agg #[.int .u32 x.f0, .int .u32 x.f1, .int .i64 x.f2]] w fun e w' => e = .returned (.tuple #[]) ∧ Bld w0 w' B (items ++ (leafF x other next).1) other (leafF x other next).2 ∧ Keep w w' := by
  unfold leafF
  by_cases c1 : x.f0 = 0 ∧ x.f1 = 4294967295
  · rw [if_pos c1]; exact leaf_whole w0 w B items other next _ _ _ h hl h0 h1 (beq_iff_eq.2 c1.1) (beq_iff_eq.2 c1.2)
  rw [if_neg c1]
  by_cases c2 : x.f0 = x.f1
  · rw [if_pos c2]
    by_cases z : x.f0 = 0
    · exact leaf_one0 w0 w B items other next _ _ _ h hl h0 h1 (beq_iff_eq.2 z) (beq_eq_false_iff_ne.2 fun e => c1 ⟨z, e⟩) (beq_iff_eq.2 c2)
    · exact leaf_one w0 w B items other next _ _ _ h hl h0 h1 (beq_eq_false_iff_ne.2 z) (beq_iff_eq.2 c2)
  rw [if_neg c2]
  by_cases z : x.f0 = 0
  · rw [if_pos z]; exact leaf_low w0 w B items other next _ _ _ h hl h0 h1 (beq_iff_eq.2 z) (beq_eq_false_iff_ne.2 fun e => c1 ⟨z, e⟩) (beq_eq_false_iff_ne.2 c2)
  rw [if_neg z]
  by_cases y : x.f1 = 4294967295
  · rw [if_pos y]; exact leaf_high w0 w B items other next _ _ _ h hl h0 h1 (beq_eq_false_iff_ne.2 z) (beq_iff_eq.2 y) (beq_eq_false_iff_ne.2 c2)
  rw [if_neg y]
  exact leaf_two w0 w B items other next _ _ _ h hl h0 h1 (beq_eq_false_iff_ne.2 z) (beq_eq_false_iff_ne.2 y) (beq_eq_false_iff_ne.2 c2)

end Go.Proofs.Ytmjpibeiglicdaa.TreeB
