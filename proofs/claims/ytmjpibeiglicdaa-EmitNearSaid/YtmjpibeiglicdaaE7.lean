/- Functions of the program as plain Lean functions, and their contracts; written by a program out of the translation. -/
import Derived.Test.YtmjpibeiglicdaaE0
import Derived.Test.YtmjpibeiglicdaaE2
import Derived.Test.YtmjpibeiglicdaaE5
import Derived.Test.YtmjpibeiglicdaaE6
namespace Go.Proofs.Ytmjpibeiglicdaa.E
open Go.RowKit Go.Proofs.YtmjpibeiglicdaaU.PrintWords Go.Proofs.YtmjpibeiglicdaaU.PrintLast Go.Proofs.YtmjpibeiglicdaaU.PrintMore
attribute [local go_sem] max2_int min2_int max_two min_two max_three min_three max_four min_four   -- for this text's walks alone
set_option linter.unusedVariables false
set_option linter.unusedSimpArgs false

/-! ### tamisref23_Emit: function 54 -/
mutual
def tamisref23_Emit.l0 : Nat → List (S38) → List Bool → List Int → List (S56) → Int → Option ((List (S56)))
  | 0, _, _, _, _, _ => none
  | k + 1, x0, x3, x4, x5, x6 => if x6 < (x0.length : Int) then (if 0 ≤ x6 then (if ((rd_T38 x0 x6).f0) = 1 then (if x5.length < 17592186044416 then (tamisref23_Emit.j1 k x0 x3 x4 (x5 ++ [(⟨(rd_T38 x0 x6).f1, 0, 0, (rd_T38 x0 x6).f2⟩ : S56)]) x6 ((rd_T38 x0 x6).f0) ((rd_T38 x0 x6).f1) ((rd_T38 x0 x6).f2) ((rd_T38 x0 x6).f3) ((rd_T38 x0 x6).f4)) else (none)) else (tamisref23_Emit.j1 k x0 x3 x4 x5 x6 ((rd_T38 x0 x6).f0) ((rd_T38 x0 x6).f1) ((rd_T38 x0 x6).f2) ((rd_T38 x0 x6).f3) ((rd_T38 x0 x6).f4))) else (none)) else (some x5)
def tamisref23_Emit.j1 : Nat → List (S38) → List Bool → List Int → List (S56) → Int → Int → Int → Int → Int → Int → Option ((List (S56)))
  | 0, _, _, _, _, _, _, _, _, _, _ => none
  | k + 1, x0, x3, x4, x5, x6, x175000, x175001, x175002, x175003, x175004 => if x175000 = 2 then ((tamisref23_Marked.f k x0 x175003 x6).bind fun t178 => (if 0 ≤ t178 then (if t178 < (x4.length : Int) then (if 0 ≤ x6 then (if x6 < (x4.length : Int) then (if x5.length < 17592186044416 then (tamisref23_Emit.j2 k x0 x3 x4 (x5 ++ [(⟨5, 0, 0, (wrap64 ((wrap64 ((rd x4 t178) - (rd x4 x6))) - 1)) % 4294967296⟩ : S56)]) x6 x175000 x175001 x175002 x175003 x175004) else (none)) else (none)) else (none)) else (none)) else (none))) else (tamisref23_Emit.j2 k x0 x3 x4 x5 x6 x175000 x175001 x175002 x175003 x175004)
def tamisref23_Emit.j2 : Nat → List (S38) → List Bool → List Int → List (S56) → Int → Int → Int → Int → Int → Int → Option ((List (S56)))
  | 0, _, _, _, _, _, _, _, _, _, _ => none
  | k + 1, x0, x3, x4, x5, x6, x175000, x175001, x175002, x175003, x175004 => if x175000 = 3 then ((tamisref23_Marked.f k x0 x175003 x6).bind fun t184 => (if 0 ≤ t184 then (if t184 < (x4.length : Int) then (if 0 ≤ x6 then (if x6 < (x4.length : Int) then ((tamisref23_Marked.f k x0 x175004 x6).bind fun t187 => (if 0 ≤ t187 then (if t187 < (x4.length : Int) then (if x6 < (x3.length : Int) then (if rdOf false x3 x6 = true then ((some (([(⟨x175001, 0, 1, x175002⟩ : S56), (⟨5, 0, 0, (wrap64 ((wrap64 ((wrap64 ((rd x4 t184) - (rd x4 x6))) - 1)) - 1)) % 4294967296⟩ : S56), (⟨5, 0, 0, (wrap64 ((wrap64 ((wrap64 ((rd x4 t187) - (rd x4 x6))) - 1)) - 2)) % 4294967296⟩ : S56)] : List (S56)) : List (S56))).bind fun y191 => (if x5.length + y191.length < 17592186044416 then (tamisref23_Emit.l0 k x0 x3 x4 (x5 ++ y191) (wrap64 (x6 + 1))) else (none))) else (if x5.length < 17592186044416 then (tamisref23_Emit.l0 k x0 x3 x4 (x5 ++ [(⟨x175001, (wrap64 ((wrap64 ((rd x4 t184) - (rd x4 x6))) - 1)) % 256, (wrap64 ((wrap64 ((rd x4 t187) - (rd x4 x6))) - 1)) % 256, x175002⟩ : S56)]) (wrap64 (x6 + 1))) else (none))) else (none)) else (none)) else (none))) else (none)) else (none)) else (none)) else (none))) else (tamisref23_Emit.l0 k x0 x3 x4 x5 (wrap64 (x6 + 1)))
end
def tamisref23_Emit.f (k : Nat) (l0 : List (S38)) : Option ((List (S56))) := (tamisref23_Long.f k l0).bind fun t167 => ((tamisref23_Places.f k l0 t167).bind fun t170 => (tamisref23_Emit.l0 k l0 t167 t170 ([] : List (S56)) 0))
theorem tamisref23_Emit.mono_l : ∀ k, (∀ y0 y1 y2 y3 y4, LeO (tamisref23_Emit.l0 k y0 y1 y2 y3 y4) (tamisref23_Emit.l0 (k + 1) y0 y1 y2 y3 y4)) ∧ (∀ y0 y1 y2 y3 y4 y5 y6 y7 y8 y9, LeO (tamisref23_Emit.j1 k y0 y1 y2 y3 y4 y5 y6 y7 y8 y9) (tamisref23_Emit.j1 (k + 1) y0 y1 y2 y3 y4 y5 y6 y7 y8 y9)) ∧ (∀ y0 y1 y2 y3 y4 y5 y6 y7 y8 y9, LeO (tamisref23_Emit.j2 k y0 y1 y2 y3 y4 y5 y6 y7 y8 y9) (tamisref23_Emit.j2 (k + 1) y0 y1 y2 y3 y4 y5 y6 y7 y8 y9))
  | 0 => ⟨fun _ _ _ _ _ r h => by simp [tamisref23_Emit.l0] at h, fun _ _ _ _ _ _ _ _ _ _ r h => by simp [tamisref23_Emit.j1] at h, fun _ _ _ _ _ _ _ _ _ _ r h => by simp [tamisref23_Emit.j2] at h⟩
  | k + 1 => by
    obtain ⟨ih0, ih1, ih2⟩ := tamisref23_Emit.mono_l k
    refine ⟨?_, ?_, ?_⟩
    · intro y0 y1 y2 y3 y4
      unfold tamisref23_Emit.l0
      repeat' first
      | (with_reducible exact ih0 _ _ _ _ _)
      | (with_reducible exact ih1 _ _ _ _ _ _ _ _ _ _)
      | (with_reducible exact ih2 _ _ _ _ _ _ _ _ _ _)
      | (with_reducible exact tamisref23_Long.mono _ _)
      | (with_reducible exact tamisref23_Marked.mono _ _ _ _)
      | (with_reducible exact tamisref23_Places.mono _ _ _)
      | (with_reducible exact LeO.refl _)
      | (with_reducible exact LeO.none _)
      | (with_reducible refine LeO.ite ?_ ?_)
      | (with_reducible refine LeO.bind ?_ (fun _ => ?_))
      | exact ih0 _ _ _ _ _
      | exact ih1 _ _ _ _ _ _ _ _ _ _
      | exact ih2 _ _ _ _ _ _ _ _ _ _
      | exact tamisref23_Long.mono _ _
      | exact tamisref23_Marked.mono _ _ _ _
      | exact tamisref23_Places.mono _ _ _
      | exact LeO.none _
      | refine LeO.ite ?_ ?_
      | refine LeO.bind ?_ (fun _ => ?_)
    · intro y0 y1 y2 y3 y4 y5 y6 y7 y8 y9
      unfold tamisref23_Emit.j1
      repeat' first
      | (with_reducible exact ih0 _ _ _ _ _)
      | (with_reducible exact ih1 _ _ _ _ _ _ _ _ _ _)
      | (with_reducible exact ih2 _ _ _ _ _ _ _ _ _ _)
      | (with_reducible exact tamisref23_Long.mono _ _)
      | (with_reducible exact tamisref23_Marked.mono _ _ _ _)
      | (with_reducible exact tamisref23_Places.mono _ _ _)
      | (with_reducible exact LeO.refl _)
      | (with_reducible exact LeO.none _)
      | (with_reducible refine LeO.ite ?_ ?_)
      | (with_reducible refine LeO.bind ?_ (fun _ => ?_))
      | exact ih0 _ _ _ _ _
      | exact ih1 _ _ _ _ _ _ _ _ _ _
      | exact ih2 _ _ _ _ _ _ _ _ _ _
      | exact tamisref23_Long.mono _ _
      | exact tamisref23_Marked.mono _ _ _ _
      | exact tamisref23_Places.mono _ _ _
      | exact LeO.none _
      | refine LeO.ite ?_ ?_
      | refine LeO.bind ?_ (fun _ => ?_)
    · intro y0 y1 y2 y3 y4 y5 y6 y7 y8 y9
      unfold tamisref23_Emit.j2
      repeat' first
      | (with_reducible exact ih0 _ _ _ _ _)
      | (with_reducible exact ih1 _ _ _ _ _ _ _ _ _ _)
      | (with_reducible exact ih2 _ _ _ _ _ _ _ _ _ _)
      | (with_reducible exact tamisref23_Long.mono _ _)
      | (with_reducible exact tamisref23_Marked.mono _ _ _ _)
      | (with_reducible exact tamisref23_Places.mono _ _ _)
      | (with_reducible exact LeO.refl _)
      | (with_reducible exact LeO.none _)
      | (with_reducible refine LeO.ite ?_ ?_)
      | (with_reducible refine LeO.bind ?_ (fun _ => ?_))
      | exact ih0 _ _ _ _ _
      | exact ih1 _ _ _ _ _ _ _ _ _ _
      | exact ih2 _ _ _ _ _ _ _ _ _ _
      | exact tamisref23_Long.mono _ _
      | exact tamisref23_Marked.mono _ _ _ _
      | exact tamisref23_Places.mono _ _ _
      | exact LeO.none _
      | refine LeO.ite ?_ ?_
      | refine LeO.bind ?_ (fun _ => ?_)
theorem tamisref23_Emit.mono : ∀ a0 k, LeO (tamisref23_Emit.f k a0) (tamisref23_Emit.f (k + 1) a0) := by
  intro a0 k
  obtain ⟨ih0, ih1, ih2⟩ := tamisref23_Emit.mono_l k
  unfold tamisref23_Emit.f
  repeat' first
      | (with_reducible exact ih0 _ _ _ _ _)
      | (with_reducible exact ih1 _ _ _ _ _ _ _ _ _ _)
      | (with_reducible exact ih2 _ _ _ _ _ _ _ _ _ _)
      | (with_reducible exact tamisref23_Long.mono _ _)
      | (with_reducible exact tamisref23_Marked.mono _ _ _ _)
      | (with_reducible exact tamisref23_Places.mono _ _ _)
      | (with_reducible exact LeO.refl _)
      | (with_reducible exact LeO.none _)
      | (with_reducible refine LeO.ite ?_ ?_)
      | (with_reducible refine LeO.bind ?_ (fun _ => ?_))
      | exact ih0 _ _ _ _ _
      | exact ih1 _ _ _ _ _ _ _ _ _ _
      | exact ih2 _ _ _ _ _ _ _ _ _ _
      | exact tamisref23_Long.mono _ _
      | exact tamisref23_Marked.mono _ _ _ _
      | exact tamisref23_Places.mono _ _ _
      | exact LeO.none _
      | refine LeO.ite ?_ ?_
      | refine LeO.bind ?_ (fun _ => ?_)
def tamisref23_Emit.T11 : Bool × List (List Nat × List Nat) := (true, [([], []), ([], []), ([], []), ([], []), ([3], [3]), ([], []), ([2, 4, 5], [2, 4, 5]), ([1, 6], [1, 6]), ([7], [7]), ([], []), ([], []), ([9, 10], [9, 10]), ([11], [11]), ([8, 12], [8, 12]), ([13], [13]), ([14], [14]), ([15], [15]), ([16], [16]), ([0, 17, 6], [0, 17]), ([18, 18, 0, 1, 2, 3, 4, 5, 6, 7, 8, 9, 10, 11, 12, 13, 14, 15, 16, 17, 18], [0, 18])])
def tamisref23_Emit.B11 : List Nat := [0, 0, 0, 0, 8, 0, 60, 126, 254, 0, 0, 1536, 3584, 8190, 16382, 32766, 65534, 131070, 262143, 524287]
theorem tamisref23_Emit.tab11 : rtab .any (opsOf Try.f54 11) = tamisref23_Emit.T11 := by kernel_rfl
theorem tamisref23_Emit.bits11 : waitsOk tamisref23_Emit.T11.2 tamisref23_Emit.B11 = true := by kernel_rfl
def tamisref23_Emit.T13 : Bool × List (List Nat × List Nat) := (true, [([], []), ([], []), ([], []), ([2], [2]), ([], []), ([1, 3, 4], [1, 3, 4]), ([0, 5], [0, 5]), ([6], [6]), ([], []), ([], []), ([8, 9], [8, 9]), ([10], [10]), ([7, 11], [7, 11]), ([12], [12]), ([], []), ([], []), ([], []), ([16], [16]), ([], []), ([15, 17, 18, 5], [15, 17, 18]), ([14, 19], [14, 19]), ([20], [20]), ([], []), ([], []), ([22, 23], [22, 23]), ([24], [24]), ([21, 25], [21, 25]), ([26], [26]), ([13, 19, 0, 1, 2, 3, 4, 5, 6, 7, 8, 9, 10, 11, 12, 13], [13]), ([27, 28, 0, 1, 2, 3, 4, 5, 6, 7, 8, 9, 10, 11, 12, 13, 14, 15, 16, 17, 18, 19, 20, 21, 22, 23, 24, 25, 26, 27, 28], [27])])
def tamisref23_Emit.B13 : List Nat := [0, 0, 0, 4, 0, 30, 63, 127, 0, 0, 768, 1792, 4095, 8191, 0, 0, 0, 65536, 0, 491582, 1032254, 2080830, 0, 0, 12582912, 29360128, 67092542, 134201406, 1032191, 536870911]
theorem tamisref23_Emit.tab13 : rtab .any (opsOf Try.f54 13) = tamisref23_Emit.T13 := by kernel_rfl
theorem tamisref23_Emit.bits13 : waitsOk tamisref23_Emit.T13.2 tamisref23_Emit.B13 = true := by kernel_rfl
set_option maxHeartbeats 8000000 in
set_option maxRecDepth 100000 in
theorem tamisref23_Emit.calls (k : Nat) (A0 : Option Addr) (c0 : Nat) (l0 : List (S38)) (r : List (S56)) (w : World) (hr0 : Kd.C k38 w A0 l0.length l0) (hc0 : l0.length ≤ c0) (h : tamisref23_Emit.f k l0 = some r) :
    Calls Try.prog 54 #[.slice A0 l0.length c0] w fun e w' => ∃ v0_ : Value, e = .returned (v0_) ∧ Kd.R k56 56 w' w.heap.size (fun _ => True) v0_ r ∧ Below w.heap.size w w' := by
  have hu38 := Try.underlying38
  have hu56 := Try.underlying56
  have HR0 := Aside0.mk hr0
  have HC0 := Aside0.mk hc0
  clear hr0 hc0
  have HB := Aside0.mk (Below.refl w.heap.size w)
  have H : ((tamisref23_Long.f k l0).bind fun t167 => ((tamisref23_Places.f k l0 t167).bind fun t170 => (tamisref23_Emit.l0 k l0 t167 t170 ([] : List (S56)) 0))) = some r := h
  clear h
  replace H := Option.bind_eq_some_iff.mp H
  obtain ⟨t167, A20, H⟩ := H
  replace H : ((tamisref23_Places.f k l0 t167).bind fun t170 => (tamisref23_Emit.l0 k l0 t167 t170 ([] : List (S56)) 0)) = some r := H
  have A2 := Aside0.mk A20
  clear A20
  replace H := Option.bind_eq_some_iff.mp H
  obtain ⟨t170, A30, H⟩ := H
  replace H : (tamisref23_Emit.l0 k l0 t167 t170 ([] : List (S56)) 0) = some r := H
  have A3 := Aside0.mk A30
  clear A30
  have H' := Aside0.mk H
  clear H
  go_enter Try.func54, Try.ntmps54
  go_wp2_with (first | ((with_reducible refine gate_callee (f := 55) rfl ?_); refine goesL_ (some 11) rfl rfl Try.func55 (by kernel_rfl) rfl #[.slice A0 l0.length c0] rfl (by (try simp only [List.map_toArray, List.map_cons, List.map_nil]); first | done | rfl | (simp only [List.length_drop, List.length_take]; rfl)) ?_; (with_reducible refine (tamisref23_Long.calls k _ _ l0 t167 _ ?side1 ?side2 A2.out).mono ?_); (case side1 => repeat (first | exact HR0.out | (with_reducible refine Kd.C_alloc ?_ _) | (with_reducible refine Kd.C_drewN ?_ _) | (with_reducible refine Kd.C_drew ?_))); (case side2 => exact HC0.out); rintro e w4 ⟨v168, rfl, ho0, hb⟩; refine ⟨_, rfl, ?_⟩; have n0_ := Aside0.mk (Kd.R_lower ho0 (below_size (by repeat (first | (with_reducible first | exact HB.out | apply below_alloc | apply pw_below_drewN | apply below_drew1) | exact HB.out)))); have n1_ := Aside0.mk (below_step (by repeat (first | (with_reducible first | exact HB.out | apply below_alloc | apply pw_below_drewN | apply below_drew1) | exact HB.out)) hb); clear HB; have HO169 := n0_; have HB := n1_; clear n0_ n1_; (try clear hb); (try clear hb2); (try clear hk); (try clear hi); (try clear ho0); obtain ⟨Ao5, co5, eo5⟩ := Kd.R_slice HO169.out; subst eo5) | ((with_reducible refine gate_callee (f := 57) rfl ?_); refine goesL_ (some 14) rfl rfl Try.func57 (by kernel_rfl) rfl #[.slice A0 l0.length c0, .slice Ao5 t167.length co5] rfl (by (try simp only [List.map_toArray, List.map_cons, List.map_nil]); first | done | rfl | (simp only [List.length_drop, List.length_take]; rfl)) ?_; (with_reducible refine (tamisref23_Places.calls k _ _ l0 _ _ t167 t170 _ ?side1 ?side2 ?side3 ?side4 A3.out).mono ?_); (case side1 => repeat (first | exact (Kd.C_below HR0.out HB.out) | (with_reducible refine Kd.C_alloc ?_ _) | (with_reducible refine Kd.C_drewN ?_ _) | (with_reducible refine Kd.C_drew ?_))); (case side2 => exact HC0.out); (case side3 => repeat (first | exact (Kd.R_reads' HO169.out).2.2 | (with_reducible refine Kd.C_alloc ?_ _) | (with_reducible refine Kd.C_drewN ?_ _) | (with_reducible refine Kd.C_drew ?_))); (case side4 => exact (Kd.R_reads' HO169.out).2.1); rintro e w6 ⟨v171, rfl, ho0, hb⟩; refine ⟨_, rfl, ?_⟩; have n0_ := Aside0.mk (Kd.R_below (by (with_reducible repeat (first | apply Kd.R_alloc | apply Kd.R_drewN | apply Kd.R_drew)); exact HO169.out) hb); have n1_ := Aside0.mk (Kd.R_lower ho0 (below_size (by repeat (first | (with_reducible first | exact HB.out | apply below_alloc | apply pw_below_drewN | apply below_drew1) | exact HB.out)))); have n2_ := Aside0.mk (below_step (by repeat (first | (with_reducible first | exact HB.out | apply below_alloc | apply pw_below_drewN | apply below_drew1) | exact HB.out)) hb); clear HO169; clear HB; have HO169 := n0_; have HO172 := n1_; have HB := n2_; clear n0_ n1_ n2_; (try clear hb); (try clear hb2); (try clear hk); (try clear hi); (try clear ho0)))
  go_loopg [5, 6] k (fun kq v5 v6 w' => ∃ (x5_1 : List (S56)) (x6_1 : Int), v6 = .int .i64 x6_1 ∧ Aside0 (tamisref23_Emit.l0 kq l0 t167 t170 x5_1 x6_1 = some r) ∧ Aside0 (kq ≤ k) ∧ Aside0 (Kd.R Kd.bool 4 w' w.heap.size (fun _ => True) (.slice Ao5 t167.length co5) t167) ∧ Aside0 (Kd.R (Kd.int .i64) 3 w' w.heap.size (fun _ => True) v171 t170) ∧ Aside0 (Kd.R k56 56 w' w.heap.size (fun _ => True) v5 x5_1) ∧ Aside0 (Below w.heap.size w w'))
  case atStart => exact ⟨(([] : List (S56))), (0), (by first | rfl | (simp; done) | (simp [*]; done)), H', ⟨Nat.le_refl _⟩, ⟨by (with_reducible repeat (first | apply Kd.R_alloc | apply Kd.R_drewN | apply Kd.R_drew)); exact HO169.out⟩, ⟨by (with_reducible repeat (first | apply Kd.R_alloc | apply Kd.R_drewN | apply Kd.R_drew)); exact HO172.out⟩, ⟨by first | exact Kd.R_nil _ _ _ _ _ | exact Kd.N_nil _ _ _ _ _ | exact Kd.V_nil _ _ _ _ _ | exact Kd.Q_nil _ _ _ _ _ | exact Kd.S_nil _ _ _ _ _⟩, ⟨by repeat (first | (with_reducible first | exact HB.out | apply below_alloc | apply pw_below_drewN | apply below_drew1) | exact HB.out)⟩⟩
  case round =>
    clear H'
    try clear p2
    try clear c5
    obtain ⟨x5_1, x6_1, rfl, HA, HK1, HO_3, HO_4, HO_5, HB⟩ := hrel
    cases gk with
    | zero => exact absurd HA.out (by simp [tamisref23_Emit.l0])
    | succ k1 =>
      have H := HA.out
      clear HA
      simp only [tamisref23_Emit.l0] at H
      by_cases c7 : x6_1 < (l0.length : Int)
      · rw [if_pos c7] at H
        have c7b0 : decide (x6_1 < (l0.length : Int)) = true := decide_eq_true c7
        clear c7
        by_cases c8 : 0 ≤ x6_1
        · rw [if_pos c8] at H
          have c8b0 : decide (0 ≤ x6_1) = true := decide_eq_true c8
          clear c8
          have HC9 := Aside0.mk H
          clear H
          have p173 : 0 ≤ (x6_1 : Int) := of_decide_eq_true (by first | (with_reducible assumption) | assumption)
          have q173 : x6_1 < (l0.length : Int) := of_decide_eq_true (by first | (with_reducible assumption) | assumption)
          obtain ⟨ad173, e173, hx173_0, hx173_1, hx173_2, hx173_3, hx173_4⟩ := at_T38 HR0.out x6_1 p173 q173
          cases e173
          replace hx173_0 := (HB.out.cell (World.block_lt_of_cell? w _ hx173_0)).trans hx173_0
          replace hx173_1 := (HB.out.cell (World.block_lt_of_cell? w _ hx173_1)).trans hx173_1
          replace hx173_2 := (HB.out.cell (World.block_lt_of_cell? w _ hx173_2)).trans hx173_2
          replace hx173_3 := (HB.out.cell (World.block_lt_of_cell? w _ hx173_3)).trans hx173_3
          replace hx173_4 := (HB.out.cell (World.block_lt_of_cell? w _ hx173_4)).trans hx173_4
          replace p173 := eq_true p173
          replace q173 := eq_true q173
          go_upto_if 27 with (first | ((with_reducible refine gate_dst (N := 7) rfl ?_); refine box_event ?hg (N := 7) ?hd (cs := #[.int .i64 0, .int .u16 0, .int .u32 0, .int .i64 0, .int .i64 0]) (t := 38) ?hr ?_; (case hd => rfl); (case hg => rfl); (case hr => first | (go_simp; done) | (go_simp; rfl)); intro gb174 hg w10 hbox hb; have n0_ := Aside0.mk (Kd.R_below (by (with_reducible repeat (first | apply Kd.R_alloc | apply Kd.R_drewN | apply Kd.R_drew)); exact HO_3.out) hb); have n1_ := Aside0.mk (Kd.R_below (by (with_reducible repeat (first | apply Kd.R_alloc | apply Kd.R_drewN | apply Kd.R_drew)); exact HO_4.out) hb); have n2_ := Aside0.mk (Kd.R_below (by (with_reducible repeat (first | apply Kd.R_alloc | apply Kd.R_drewN | apply Kd.R_drew)); exact HO_5.out) hb); have n3_ := Aside0.mk (below_step (by repeat (first | (with_reducible first | exact HB.out | apply below_alloc | apply pw_below_drewN | apply below_drew1) | exact HB.out)) hb); have n4_ := Aside0.mk (hbox); have n5_ := Aside0.mk ((by rw [hg]; exact (below_size (by repeat (first | (with_reducible first | exact HB.out | apply below_alloc | apply pw_below_drewN | apply below_drew1) | exact HB.out))) : w.heap.size ≤ gb174)); have n6_ := Aside0.mk ((by rw [hg]; exact (below_size (by repeat (first | (with_reducible first | exact HB.out | apply below_alloc | apply pw_below_drewN | apply below_drew1) | exact HB.out))) : w.heap.size ≤ gb174)); clear HO_3; clear HO_4; clear HO_5; clear HB; have HO_3 := n0_; have HO_4 := n1_; have HO_5 := n2_; have HB := n3_; have BK174 := n4_; have GW174 := n5_; have GE174 := n6_; clear n0_ n1_ n2_ n3_ n4_ n5_ n6_; clear hb hbox hg; have hcz11_0 : w10.cell? ⟨gb174, 0, none⟩ = some (.int .i64 0) := (blk_cell BK174.out 0).trans rfl; have hcz11_1 : w10.cell? ⟨gb174, 1, none⟩ = some (.int .u16 0) := (blk_cell BK174.out 1).trans rfl; have hcz11_2 : w10.cell? ⟨gb174, 2, none⟩ = some (.int .u32 0) := (blk_cell BK174.out 2).trans rfl; have hcz11_3 : w10.cell? ⟨gb174, 3, none⟩ = some (.int .i64 0) := (blk_cell BK174.out 3).trans rfl; have hcz11_4 : w10.cell? ⟨gb174, 4, none⟩ = some (.int .i64 0) := (blk_cell BK174.out 4).trans rfl; have hfz11_0 := blk_frozen BK174.out 0; have hfz11_1 := blk_frozen BK174.out 1; have hfz11_2 := blk_frozen BK174.out 2; have hfz11_3 := blk_frozen BK174.out 3; have hfz11_4 := blk_frozen BK174.out 4))
          (try simp only [Act.put, List.setIfInBounds_toArray, List.set_cons_zero, List.set_cons_succ])
          go_cut [5] (fun v5 wc => ∃ (kq : Nat) (x5_8 : List (S56)), Aside0 (tamisref23_Emit.j1 kq l0 t167 t170 x5_8 x6_1 ((rd_T38 l0 x6_1).f0) ((rd_T38 l0 x6_1).f1) ((rd_T38 l0 x6_1).f2) ((rd_T38 l0 x6_1).f3) ((rd_T38 l0 x6_1).f4) = some r) ∧ Aside0 (kq ≤ k1) ∧ Aside0 (Kd.R Kd.bool 4 wc w.heap.size (fun _ => True) (.slice Ao5 t167.length co5) t167) ∧ Aside0 (Kd.R (Kd.int .i64) 3 wc w.heap.size (fun _ => True) v171 t170) ∧ Aside0 (Kd.R k56 56 wc w.heap.size (fun _ => True) v5 x5_8) ∧ Aside0 (wc.heap[gb174]? = some (.cells #[.int .i64 ((rd_T38 l0 x6_1).f0), .int .u16 ((rd_T38 l0 x6_1).f1), .int .u32 ((rd_T38 l0 x6_1).f2), .int .i64 ((rd_T38 l0 x6_1).f3), .int .i64 ((rd_T38 l0 x6_1).f4)] 38 (0, 0))) ∧ Aside0 (Below w.heap.size w wc))
          case first =>
            have H := HC9.out
            clear HC9
            by_cases c12 : ((rd_T38 l0 x6_1).f0) = 1
            · rw [if_pos c12] at H
              have c12b0 : (((rd_T38 l0 x6_1).f0) == 1) = true := beq_iff_eq.mpr c12
              have c12b1 : (((rd_T38 l0 x6_1).f0) != 1) = false := bne_eq_false_iff_eq.mpr c12
              clear c12
              (first | rw [c12b0] | (simp only [i64_w, i32_w]; rw [c12b0]) | skip)
              by_cases c13 : x5_1.length < 17592186044416
              · rw [if_pos c13] at H
                have LMc13 := Aside0.mk c13
                clear c13
                obtain ⟨y175, hy175⟩ : ∃ y_ : List (S56), y_ = (x5_1 ++ [(⟨(rd_T38 l0 x6_1).f1, 0, 0, (rd_T38 l0 x6_1).f2⟩ : S56)]) := ⟨_, rfl⟩
                replace H : (tamisref23_Emit.j1 k1 l0 t167 t170 y175 x6_1 ((rd_T38 l0 x6_1).f0) ((rd_T38 l0 x6_1).f1) ((rd_T38 l0 x6_1).f2) ((rd_T38 l0 x6_1).f3) ((rd_T38 l0 x6_1).f4)) = some r := by first | (rw [hy175]; with_reducible exact H) | (have H2_ := (Option.bind_some _ _).symm.trans H; rw [hy175]; with_reducible exact H2_) | (have H2_ := (Option.bind_some _ _).symm.trans H; with_reducible exact H2_) | with_reducible exact H | (rw [hy175]; exact H) | exact H
                have Ny175 := Aside0.mk hy175
                clear hy175
                have H' := Aside0.mk H
                clear H
                have hcz14_0 : w10.cell? ⟨gb174, 0, none⟩ = some (.int .i64 0) := (blk_cell BK174.out 0).trans rfl
                have hcz14_1 : w10.cell? ⟨gb174, 1, none⟩ = some (.int .u16 0) := (blk_cell BK174.out 1).trans rfl
                have hcz14_2 : w10.cell? ⟨gb174, 2, none⟩ = some (.int .u32 0) := (blk_cell BK174.out 2).trans rfl
                have hcz14_3 : w10.cell? ⟨gb174, 3, none⟩ = some (.int .i64 0) := (blk_cell BK174.out 3).trans rfl
                have hcz14_4 : w10.cell? ⟨gb174, 4, none⟩ = some (.int .i64 0) := (blk_cell BK174.out 4).trans rfl
                have hfz14_0 := blk_frozen BK174.out 0
                have hfz14_1 := blk_frozen BK174.out 1
                have hfz14_2 := blk_frozen BK174.out 2
                have hfz14_3 := blk_frozen BK174.out 3
                have hfz14_4 := blk_frozen BK174.out 4
                go_wp2_with (first | ((with_reducible refine gate_builtin (b := .append) (xs := #[.tmp 28, .tmp 34]) rfl ?_); at_builtin; refine Kd.R_append k56 (w0 := w) w.heap.size rfl (.tmp 28) (.tmp 34) 45 56 (.agg #[(.int .u16 0), (.int .u8 0), (.int .u8 0), (.int .u32 0)]) 8 rfl Try.underlying45 info56 rfl (by decide) (by omega) u5 x5_1 (⟨(rd_T38 l0 x6_1).f1, 0, 0, (rd_T38 l0 x6_1).f2⟩ : S56) [.int .u16 ((rd_T38 l0 x6_1).f1), .int .u8 0, .int .u8 0, .int .u32 ((rd_T38 l0 x6_1).f2)] (fun _ => True) (fun _ => False) rfl (by first | (go_simp; done) | (go_simp; rfl)) ?aP (fun _ hk => hk.elim) ?aF ?aO ?aB ?aS ?aL ?_; (case aP => exact k56_mkM _ _ _ (⟨(rd_T38 l0 x6_1).f1, 0, 0, (rd_T38 l0 x6_1).f2⟩ : S56)); (case aB => exact (by repeat (first | (with_reducible first | exact HB.out | apply below_alloc | apply pw_below_drewN | apply below_drew1 | refine below_set ?_ GE174.out) | exact HB.out))); (case aF => exact (fun _ _ => trivial)); (case aO => exact (by (with_reducible repeat (first | apply Kd.R_alloc | apply Kd.R_drewN | apply Kd.R_drew)); exact Kd.R_mono (Kd.R_far (p := ⟨gb174, 4, none⟩) (Kd.R_far (p := ⟨gb174, 3, none⟩) (Kd.R_far (p := ⟨gb174, 2, none⟩) (Kd.R_far (p := ⟨gb174, 1, none⟩) (Kd.R_far (p := ⟨gb174, 0, none⟩) (Kd.R_types HO_5.out BK174.out (by decide)) (fun _ hk => hk.2) (.int .i64 ((rd_T38 l0 x6_1).f0))) (fun _ hk => hk.2) (.int .u16 ((rd_T38 l0 x6_1).f1))) (fun _ hk => hk.2) (.int .u32 ((rd_T38 l0 x6_1).f2))) (fun _ hk => hk.2) (.int .i64 ((rd_T38 l0 x6_1).f3))) (fun _ hk => hk.2) (.int .i64 ((rd_T38 l0 x6_1).f4))) (fun _ hk => trivial))); (case aS => exact (below_size (by repeat (first | (with_reducible first | exact HB.out | apply below_alloc | apply pw_below_drewN | apply below_drew1 | refine below_set ?_ GE174.out) | exact HB.out)))); (case aL => have := LMc13.out; omega); intro v176 w15 ho hb hg hat; rw [← Ny175.out] at ho; have n0_ := Aside0.mk (Kd.R_over' (by (with_reducible repeat (first | apply Kd.R_alloc | apply Kd.R_drewN | apply Kd.R_drew)); exact (Kd.R_mono (Kd.R_far (p := ⟨gb174, 4, none⟩) (Kd.R_far (p := ⟨gb174, 3, none⟩) (Kd.R_far (p := ⟨gb174, 2, none⟩) (Kd.R_far (p := ⟨gb174, 1, none⟩) (Kd.R_far (p := ⟨gb174, 0, none⟩) (Kd.R_types HO_3.out BK174.out (by decide)) (fun _ hk => hk.2) (.int .i64 ((rd_T38 l0 x6_1).f0))) (fun _ hk => hk.2) (.int .u16 ((rd_T38 l0 x6_1).f1))) (fun _ hk => hk.2) (.int .u32 ((rd_T38 l0 x6_1).f2))) (fun _ hk => hk.2) (.int .i64 ((rd_T38 l0 x6_1).f3))) (fun _ hk => hk.2) (.int .i64 ((rd_T38 l0 x6_1).f4))) (fun _ h_ => h_.1))) (Kd.R_typed (by (with_reducible repeat (first | apply Kd.R_alloc | apply Kd.R_drewN | apply Kd.R_drew)); exact (Kd.R_mono (Kd.R_far (p := ⟨gb174, 4, none⟩) (Kd.R_far (p := ⟨gb174, 3, none⟩) (Kd.R_far (p := ⟨gb174, 2, none⟩) (Kd.R_far (p := ⟨gb174, 1, none⟩) (Kd.R_far (p := ⟨gb174, 0, none⟩) (Kd.R_types HO_5.out BK174.out (by decide)) (fun _ hk => hk.2) (.int .i64 ((rd_T38 l0 x6_1).f0))) (fun _ hk => hk.2) (.int .u16 ((rd_T38 l0 x6_1).f1))) (fun _ hk => hk.2) (.int .u32 ((rd_T38 l0 x6_1).f2))) (fun _ hk => hk.2) (.int .i64 ((rd_T38 l0 x6_1).f3))) (fun _ hk => hk.2) (.int .i64 ((rd_T38 l0 x6_1).f4))) (fun _ h_ => h_.1)))) (by decide) hg); have n1_ := Aside0.mk (Kd.R_over' (by (with_reducible repeat (first | apply Kd.R_alloc | apply Kd.R_drewN | apply Kd.R_drew)); exact (Kd.R_mono (Kd.R_far (p := ⟨gb174, 4, none⟩) (Kd.R_far (p := ⟨gb174, 3, none⟩) (Kd.R_far (p := ⟨gb174, 2, none⟩) (Kd.R_far (p := ⟨gb174, 1, none⟩) (Kd.R_far (p := ⟨gb174, 0, none⟩) (Kd.R_types HO_4.out BK174.out (by decide)) (fun _ hk => hk.2) (.int .i64 ((rd_T38 l0 x6_1).f0))) (fun _ hk => hk.2) (.int .u16 ((rd_T38 l0 x6_1).f1))) (fun _ hk => hk.2) (.int .u32 ((rd_T38 l0 x6_1).f2))) (fun _ hk => hk.2) (.int .i64 ((rd_T38 l0 x6_1).f3))) (fun _ hk => hk.2) (.int .i64 ((rd_T38 l0 x6_1).f4))) (fun _ h_ => h_.1))) (Kd.R_typed (by (with_reducible repeat (first | apply Kd.R_alloc | apply Kd.R_drewN | apply Kd.R_drew)); exact (Kd.R_mono (Kd.R_far (p := ⟨gb174, 4, none⟩) (Kd.R_far (p := ⟨gb174, 3, none⟩) (Kd.R_far (p := ⟨gb174, 2, none⟩) (Kd.R_far (p := ⟨gb174, 1, none⟩) (Kd.R_far (p := ⟨gb174, 0, none⟩) (Kd.R_types HO_5.out BK174.out (by decide)) (fun _ hk => hk.2) (.int .i64 ((rd_T38 l0 x6_1).f0))) (fun _ hk => hk.2) (.int .u16 ((rd_T38 l0 x6_1).f1))) (fun _ hk => hk.2) (.int .u32 ((rd_T38 l0 x6_1).f2))) (fun _ hk => hk.2) (.int .i64 ((rd_T38 l0 x6_1).f3))) (fun _ hk => hk.2) (.int .i64 ((rd_T38 l0 x6_1).f4))) (fun _ h_ => h_.1)))) (by decide) hg); have n2_ := Aside0.mk (blk_grown (g := gb174) (o := .cells #[.int .i64 ((rd_T38 l0 x6_1).f0), .int .u16 ((rd_T38 l0 x6_1).f1), .int .u32 ((rd_T38 l0 x6_1).f2), .int .i64 ((rd_T38 l0 x6_1).f3), .int .i64 ((rd_T38 l0 x6_1).f4)] 38 (0, 0)) (by (with_reducible repeat (first | refine blk_drewN ?_ _ | refine blk_drew ?_ | refine blk_alloc ?_ _)); refine blk_put (cs := #[.int .i64 ((rd_T38 l0 x6_1).f0), .int .u16 ((rd_T38 l0 x6_1).f1), .int .u32 ((rd_T38 l0 x6_1).f2), .int .i64 ((rd_T38 l0 x6_1).f3), .int .i64 0]) ?_ 4 _ rfl; (with_reducible repeat (first | refine blk_drewN ?_ _ | refine blk_drew ?_ | refine blk_alloc ?_ _)); refine blk_put (cs := #[.int .i64 ((rd_T38 l0 x6_1).f0), .int .u16 ((rd_T38 l0 x6_1).f1), .int .u32 ((rd_T38 l0 x6_1).f2), .int .i64 0, .int .i64 0]) ?_ 3 _ rfl; (with_reducible repeat (first | refine blk_drewN ?_ _ | refine blk_drew ?_ | refine blk_alloc ?_ _)); refine blk_put (cs := #[.int .i64 ((rd_T38 l0 x6_1).f0), .int .u16 ((rd_T38 l0 x6_1).f1), .int .u32 0, .int .i64 0, .int .i64 0]) ?_ 2 _ rfl; (with_reducible repeat (first | refine blk_drewN ?_ _ | refine blk_drew ?_ | refine blk_alloc ?_ _)); refine blk_put (cs := #[.int .i64 ((rd_T38 l0 x6_1).f0), .int .u16 0, .int .u32 0, .int .i64 0, .int .i64 0]) ?_ 1 _ rfl; (with_reducible repeat (first | refine blk_drewN ?_ _ | refine blk_drew ?_ | refine blk_alloc ?_ _)); refine blk_put (cs := #[.int .i64 0, .int .u16 0, .int .u32 0, .int .i64 0, .int .i64 0]) ?_ 0 _ rfl; (with_reducible repeat (first | refine blk_drewN ?_ _ | refine blk_drew ?_ | refine blk_alloc ?_ _)); exact BK174.out) hg (Kd.R_ne HO_5.out BK174.out (by decide))); have n3_ := Aside0.mk (hb); have n4_ := Aside0.mk (ho); clear HO_3; clear HO_4; clear BK174; clear HB; clear HO_5; have HO_3 := n0_; have HO_4 := n1_; have BK174 := n2_; have HB := n3_; have HO177 := n4_; clear n0_ n1_ n2_ n3_ n4_; clear ho hb hg hat))
                go_meet
                case rel => exact ⟨_, (y175), H', ⟨by have := HK1.out; first | omega | exact Nat.le_refl _⟩, ⟨by (with_reducible repeat (first | apply Kd.R_alloc | apply Kd.R_drewN | apply Kd.R_drew)); exact HO_3.out⟩, ⟨by (with_reducible repeat (first | apply Kd.R_alloc | apply Kd.R_drewN | apply Kd.R_drew)); exact HO_4.out⟩, ⟨by (with_reducible repeat (first | apply Kd.R_alloc | apply Kd.R_drewN | apply Kd.R_drew)); exact HO177.out⟩, ⟨by (with_reducible repeat (first | refine blk_drewN ?_ _ | refine blk_drew ?_ | refine blk_alloc ?_ _)); exact BK174.out⟩, ⟨by repeat (first | (with_reducible first | exact HB.out | apply below_alloc | apply pw_below_drewN | apply below_drew1 | refine below_set ?_ GE174.out) | exact HB.out)⟩⟩
              · rw [if_neg c13] at H
                exact absurd H (by simp)
            · rw [if_neg c12] at H
              have c12b0 : (((rd_T38 l0 x6_1).f0) == 1) = false := beq_eq_false_iff_ne.mpr c12
              have c12b1 : (((rd_T38 l0 x6_1).f0) != 1) = true := bne_iff_ne.mpr c12
              (first | rw [c12b0] | (simp only [i64_w, i32_w]; rw [c12b0]) | skip)
              have H' := Aside0.mk H
              clear H
              go_wp2
              go_meet
              case rel => exact ⟨_, (x5_1), H', ⟨by have := HK1.out; first | omega | exact Nat.le_refl _⟩, ⟨by (with_reducible repeat (first | apply Kd.R_alloc | apply Kd.R_drewN | apply Kd.R_drew)); exact Kd.R_mono (Kd.R_far (p := ⟨gb174, 4, none⟩) (Kd.R_far (p := ⟨gb174, 3, none⟩) (Kd.R_far (p := ⟨gb174, 2, none⟩) (Kd.R_far (p := ⟨gb174, 1, none⟩) (Kd.R_far (p := ⟨gb174, 0, none⟩) (Kd.R_types HO_3.out BK174.out (by decide)) (fun _ hk => hk.2) (.int .i64 ((rd_T38 l0 x6_1).f0))) (fun _ hk => hk.2) (.int .u16 ((rd_T38 l0 x6_1).f1))) (fun _ hk => hk.2) (.int .u32 ((rd_T38 l0 x6_1).f2))) (fun _ hk => hk.2) (.int .i64 ((rd_T38 l0 x6_1).f3))) (fun _ hk => hk.2) (.int .i64 ((rd_T38 l0 x6_1).f4))) (fun _ hk => trivial)⟩, ⟨by (with_reducible repeat (first | apply Kd.R_alloc | apply Kd.R_drewN | apply Kd.R_drew)); exact Kd.R_mono (Kd.R_far (p := ⟨gb174, 4, none⟩) (Kd.R_far (p := ⟨gb174, 3, none⟩) (Kd.R_far (p := ⟨gb174, 2, none⟩) (Kd.R_far (p := ⟨gb174, 1, none⟩) (Kd.R_far (p := ⟨gb174, 0, none⟩) (Kd.R_types HO_4.out BK174.out (by decide)) (fun _ hk => hk.2) (.int .i64 ((rd_T38 l0 x6_1).f0))) (fun _ hk => hk.2) (.int .u16 ((rd_T38 l0 x6_1).f1))) (fun _ hk => hk.2) (.int .u32 ((rd_T38 l0 x6_1).f2))) (fun _ hk => hk.2) (.int .i64 ((rd_T38 l0 x6_1).f3))) (fun _ hk => hk.2) (.int .i64 ((rd_T38 l0 x6_1).f4))) (fun _ hk => trivial)⟩, ⟨by (with_reducible repeat (first | apply Kd.R_alloc | apply Kd.R_drewN | apply Kd.R_drew)); exact Kd.R_mono (Kd.R_far (p := ⟨gb174, 4, none⟩) (Kd.R_far (p := ⟨gb174, 3, none⟩) (Kd.R_far (p := ⟨gb174, 2, none⟩) (Kd.R_far (p := ⟨gb174, 1, none⟩) (Kd.R_far (p := ⟨gb174, 0, none⟩) (Kd.R_types HO_5.out BK174.out (by decide)) (fun _ hk => hk.2) (.int .i64 ((rd_T38 l0 x6_1).f0))) (fun _ hk => hk.2) (.int .u16 ((rd_T38 l0 x6_1).f1))) (fun _ hk => hk.2) (.int .u32 ((rd_T38 l0 x6_1).f2))) (fun _ hk => hk.2) (.int .i64 ((rd_T38 l0 x6_1).f3))) (fun _ hk => hk.2) (.int .i64 ((rd_T38 l0 x6_1).f4))) (fun _ hk => trivial)⟩, ⟨by (with_reducible repeat (first | refine blk_drewN ?_ _ | refine blk_drew ?_ | refine blk_alloc ?_ _)); refine blk_put (cs := #[.int .i64 ((rd_T38 l0 x6_1).f0), .int .u16 ((rd_T38 l0 x6_1).f1), .int .u32 ((rd_T38 l0 x6_1).f2), .int .i64 ((rd_T38 l0 x6_1).f3), .int .i64 0]) ?_ 4 _ rfl; (with_reducible repeat (first | refine blk_drewN ?_ _ | refine blk_drew ?_ | refine blk_alloc ?_ _)); refine blk_put (cs := #[.int .i64 ((rd_T38 l0 x6_1).f0), .int .u16 ((rd_T38 l0 x6_1).f1), .int .u32 ((rd_T38 l0 x6_1).f2), .int .i64 0, .int .i64 0]) ?_ 3 _ rfl; (with_reducible repeat (first | refine blk_drewN ?_ _ | refine blk_drew ?_ | refine blk_alloc ?_ _)); refine blk_put (cs := #[.int .i64 ((rd_T38 l0 x6_1).f0), .int .u16 ((rd_T38 l0 x6_1).f1), .int .u32 0, .int .i64 0, .int .i64 0]) ?_ 2 _ rfl; (with_reducible repeat (first | refine blk_drewN ?_ _ | refine blk_drew ?_ | refine blk_alloc ?_ _)); refine blk_put (cs := #[.int .i64 ((rd_T38 l0 x6_1).f0), .int .u16 0, .int .u32 0, .int .i64 0, .int .i64 0]) ?_ 1 _ rfl; (with_reducible repeat (first | refine blk_drewN ?_ _ | refine blk_drew ?_ | refine blk_alloc ?_ _)); refine blk_put (cs := #[.int .i64 0, .int .u16 0, .int .u32 0, .int .i64 0, .int .i64 0]) ?_ 0 _ rfl; (with_reducible repeat (first | refine blk_drewN ?_ _ | refine blk_drew ?_ | refine blk_alloc ?_ _)); exact BK174.out⟩, ⟨by repeat (first | (with_reducible first | exact HB.out | apply below_alloc | apply pw_below_drewN | apply below_drew1 | refine below_set ?_ GE174.out) | exact HB.out)⟩⟩
          case rest =>
            clear HC9
            try clear c1
            try clear p1
            try clear q1
            try clear hx1
            try clear p2
            try clear c5
            try clear c7
            try clear c7b0
            try clear c8
            try clear c8b0
            try clear c12
            try clear c12b0
            try clear c12b1
            try clear c13
            try clear hcz11_0
            try clear hcz11_1
            try clear hcz11_2
            try clear hcz11_3
            try clear hcz11_4
            try clear hcz14_0
            try clear hcz14_1
            try clear hcz14_2
            try clear hcz14_3
            try clear hcz14_4
            try clear hfz11_0
            try clear hfz11_1
            try clear hfz11_2
            try clear hfz11_3
            try clear hfz11_4
            try clear hfz14_0
            try clear hfz14_1
            try clear hfz14_2
            try clear hfz14_3
            try clear hfz14_4
            try clear hx173_0
            try clear hx173_1
            try clear hx173_2
            try clear hx173_3
            try clear hx173_4
            try clear p173
            try clear p2
            try clear q173
            obtain ⟨kq, x5_8, HA, HJ8, HO_3, HO_4, HO_5, BK174, HB⟩ := hcut
            cases kq with
            | zero => exact absurd HA.out (by simp [tamisref23_Emit.j1])
            | succ kj8 =>
              have H := HA.out
              clear HA
              simp only [tamisref23_Emit.j1] at H
              have HC16 := Aside0.mk H
              clear H
              have hcz17_0 : wc.cell? ⟨gb174, 0, none⟩ = some (.int .i64 ((rd_T38 l0 x6_1).f0)) := (blk_cell BK174.out 0).trans rfl
              have hcz17_1 : wc.cell? ⟨gb174, 1, none⟩ = some (.int .u16 ((rd_T38 l0 x6_1).f1)) := (blk_cell BK174.out 1).trans rfl
              have hcz17_2 : wc.cell? ⟨gb174, 2, none⟩ = some (.int .u32 ((rd_T38 l0 x6_1).f2)) := (blk_cell BK174.out 2).trans rfl
              have hcz17_3 : wc.cell? ⟨gb174, 3, none⟩ = some (.int .i64 ((rd_T38 l0 x6_1).f3)) := (blk_cell BK174.out 3).trans rfl
              have hcz17_4 : wc.cell? ⟨gb174, 4, none⟩ = some (.int .i64 ((rd_T38 l0 x6_1).f4)) := (blk_cell BK174.out 4).trans rfl
              have hfz17_0 := blk_frozen BK174.out 0
              have hfz17_1 := blk_frozen BK174.out 1
              have hfz17_2 := blk_frozen BK174.out 2
              have hfz17_3 := blk_frozen BK174.out 3
              have hfz17_4 := blk_frozen BK174.out 4
              go_upto_if 38 with (fail)
              go_cut [5] (fun v5 wc => ∃ (kq : Nat) (x5_15 : List (S56)), Aside0 (tamisref23_Emit.j2 kq l0 t167 t170 x5_15 x6_1 ((rd_T38 l0 x6_1).f0) ((rd_T38 l0 x6_1).f1) ((rd_T38 l0 x6_1).f2) ((rd_T38 l0 x6_1).f3) ((rd_T38 l0 x6_1).f4) = some r) ∧ Aside0 (kq ≤ kj8) ∧ Aside0 (Kd.R Kd.bool 4 wc w.heap.size (fun _ => True) (.slice Ao5 t167.length co5) t167) ∧ Aside0 (Kd.R (Kd.int .i64) 3 wc w.heap.size (fun _ => True) v171 t170) ∧ Aside0 (Kd.R k56 56 wc w.heap.size (fun _ => True) v5 x5_15) ∧ Aside0 (wc.heap[gb174]? = some (.cells #[.int .i64 ((rd_T38 l0 x6_1).f0), .int .u16 ((rd_T38 l0 x6_1).f1), .int .u32 ((rd_T38 l0 x6_1).f2), .int .i64 ((rd_T38 l0 x6_1).f3), .int .i64 ((rd_T38 l0 x6_1).f4)] 38 (0, 0))) ∧ Aside0 (Below w.heap.size w wc))
              case first =>
                have H := HC16.out
                clear HC16
                by_cases c18 : ((rd_T38 l0 x6_1).f0) = 2
                · rw [if_pos c18] at H
                  have c18b0 : (((rd_T38 l0 x6_1).f0) == 2) = true := beq_iff_eq.mpr c18
                  have c18b1 : (((rd_T38 l0 x6_1).f0) != 2) = false := bne_eq_false_iff_eq.mpr c18
                  clear c18
                  (first | rw [c18b0] | (simp only [i64_w, i32_w]; rw [c18b0]) | skip)
                  replace H := Option.bind_eq_some_iff.mp H
                  obtain ⟨t178, A190, H⟩ := H
                  replace H : (if 0 ≤ t178 then (if t178 < (t170.length : Int) then (if 0 ≤ x6_1 then (if x6_1 < (t170.length : Int) then (if x5_8.length < 17592186044416 then (tamisref23_Emit.j2 kj8 l0 t167 t170 (x5_8 ++ [(⟨5, 0, 0, (wrap64 ((wrap64 ((rd t170 t178) - (rd t170 x6_1))) - 1)) % 4294967296⟩ : S56)]) x6_1 ((rd_T38 l0 x6_1).f0) ((rd_T38 l0 x6_1).f1) ((rd_T38 l0 x6_1).f2) ((rd_T38 l0 x6_1).f3) ((rd_T38 l0 x6_1).f4)) else (none)) else (none)) else (none)) else (none)) else (none)) = some r := H
                  have A19 := Aside0.mk A190
                  clear A190
                  by_cases c20 : 0 ≤ t178
                  · rw [if_pos c20] at H
                    have c20b0 : decide (0 ≤ t178) = true := decide_eq_true c20
                    clear c20
                    by_cases c21 : t178 < (t170.length : Int)
                    · rw [if_pos c21] at H
                      have c21b0 : decide (t178 < (t170.length : Int)) = true := decide_eq_true c21
                      clear c21
                      by_cases c22 : 0 ≤ x6_1
                      · rw [if_pos c22] at H
                        have c22b0 : decide (0 ≤ x6_1) = true := decide_eq_true c22
                        clear c22
                        by_cases c23 : x6_1 < (t170.length : Int)
                        · rw [if_pos c23] at H
                          have c23b0 : decide (x6_1 < (t170.length : Int)) = true := decide_eq_true c23
                          clear c23
                          by_cases c24 : x5_8.length < 17592186044416
                          · rw [if_pos c24] at H
                            have LMc24 := Aside0.mk c24
                            clear c24
                            obtain ⟨y181, hy181⟩ : ∃ y_ : List (S56), y_ = (x5_8 ++ [(⟨5, 0, 0, (wrap64 ((wrap64 ((rd t170 t178) - (rd t170 x6_1))) - 1)) % 4294967296⟩ : S56)]) := ⟨_, rfl⟩
                            replace H : (tamisref23_Emit.j2 kj8 l0 t167 t170 y181 x6_1 ((rd_T38 l0 x6_1).f0) ((rd_T38 l0 x6_1).f1) ((rd_T38 l0 x6_1).f2) ((rd_T38 l0 x6_1).f3) ((rd_T38 l0 x6_1).f4)) = some r := by first | (rw [hy181]; with_reducible exact H) | (have H2_ := (Option.bind_some _ _).symm.trans H; rw [hy181]; with_reducible exact H2_) | (have H2_ := (Option.bind_some _ _).symm.trans H; with_reducible exact H2_) | with_reducible exact H | (rw [hy181]; exact H) | exact H
                            have Ny181 := Aside0.mk hy181
                            clear hy181
                            have H' := Aside0.mk H
                            clear H
                            try go_wp2
                            have n0_ := Aside0.mk (Kd.R_drew HO_3.out)
                            have n1_ := Aside0.mk (Kd.R_drew HO_4.out)
                            have n2_ := Aside0.mk (Kd.R_drew HO_5.out)
                            have n3_ := Aside0.mk (blk_drew BK174.out)
                            have n4_ := Aside0.mk (below_drew1 HB.out)
                            clear HO_3
                            clear HO_4
                            clear HO_5
                            clear BK174
                            clear HB
                            have HO_3 := n0_
                            have HO_4 := n1_
                            have HO_5 := n2_
                            have BK174 := n3_
                            have HB := n4_
                            clear n0_ n1_ n2_ n3_ n4_
                            obtain ⟨Ao26, co26, eo26⟩ := Kd.R_slice HO_4.out
                            (first | subst eo26 | (injection eo26 with f1_ f2_ f3_; have f4_ := f1_.symm; have f5_ := f3_.symm; clear f1_ f2_ f3_; subst f4_; subst f5_))
                            have p180 : 0 ≤ (x6_1 : Int) := of_decide_eq_true (by first | (with_reducible assumption) | assumption)
                            have q180 : x6_1 < (t170.length : Int) := of_decide_eq_true (by first | (with_reducible assumption) | assumption)
                            obtain ⟨ad180, e180, hx180_0⟩ := Kd.at_int (Kd.R_reads' HO_4.out).2.2 x6_1 p180 q180
                            cases e180
                            replace p180 := eq_true p180
                            replace q180 := eq_true q180
                            have p179 : 0 ≤ (t178 : Int) := of_decide_eq_true (by first | (with_reducible assumption) | assumption)
                            have q179 : t178 < (t170.length : Int) := of_decide_eq_true (by first | (with_reducible assumption) | assumption)
                            obtain ⟨ad179, e179, hx179_0⟩ := Kd.at_int (Kd.R_reads' HO_4.out).2.2 t178 p179 q179
                            obtain rfl : ad180 = ad179 := (by injection e179)
                            replace p179 := eq_true p179
                            replace q179 := eq_true q179
                            refine start_ (n := 20) (S := fun w' => w'.cell? ⟨gb174, 0, none⟩ = some (.int .i64 ((rd_T38 l0 x6_1).f0)) ∧ w'.cell? ⟨gb174, 1, none⟩ = some (.int .u16 ((rd_T38 l0 x6_1).f1)) ∧ w'.cell? ⟨gb174, 2, none⟩ = some (.int .u32 ((rd_T38 l0 x6_1).f2)) ∧ w'.cell? ⟨gb174, 3, none⟩ = some (.int .i64 ((rd_T38 l0 x6_1).f3)) ∧ w'.cell? ⟨gb174, 4, none⟩ = some (.int .i64 ((rd_T38 l0 x6_1).f4)) ∧ w'.cell? (ad180.add (x6_1).toNat) = some (.int .i64 (rd t170 x6_1)) ∧ w'.cell? (ad180.add (t178).toNat) = some (.int .i64 (rd t170 t178))) (ds := [17, 18]) #[false, false, false, false, false, false, false, false, false, false, false, false, false, false, false, false, false, false, false, false] (by kernel_rfl) rfl rfl ⟨(blk_cell BK174.out 0).trans rfl, (blk_cell BK174.out 1).trans rfl, (blk_cell BK174.out 2).trans rfl, (blk_cell BK174.out 3).trans rfl, (blk_cell BK174.out 4).trans rfl, hx180_0, hx179_0⟩ (fun hHeld => ?_); refine with_tabW tamisref23_Emit.tab11 tamisref23_Emit.bits11 (fun HT_ HW_ => ?_)
                            generalize wc.drew = w25 at HO_3 HO_4 HO_5 BK174 HB hx179_0 hx180_0 hHeld ⊢
                            refine pure_ (i := 0) (N := some 39) (v := ?_) (a' := ?_) #[true, false, false, false, false, false, false, false, false, false, false, false, false, false, false, false, false, false, false, false] rfl rfl (any_of HT_.out (by kernel_rfl)) (fun _ _ _ h => h) (Or.inl ⟨by rfl, ?_⟩) ?_ ?_
                            rotate_left
                            · intro w'
                              go_simp
                              with_reducible rfl
                            rotate_left
                            · simp only [Act.put, List.setIfInBounds_toArray, List.set_cons_zero, List.set_cons_succ, i64_w, i32_w]
                              rfl
                            refine pure_ (i := 1) (N := some 40) (v := ?_) (a' := ?_) #[true, true, false, false, false, false, false, false, false, false, false, false, false, false, false, false, false, false, false, false] rfl rfl (any_of HT_.out (by kernel_rfl)) (fun _ _ _ h => h) (Or.inl ⟨by rfl, ?_⟩) ?_ ?_
                            rotate_left
                            · intro w'
                              go_simp
                              with_reducible rfl
                            rotate_left
                            · simp only [Act.put, List.setIfInBounds_toArray, List.set_cons_zero, List.set_cons_succ, i64_w, i32_w]
                              rfl
                            refine pure_ (i := 2) (N := some 41) (v := ?_) (a' := ?_) #[true, true, true, false, false, false, false, false, false, false, false, false, false, false, false, false, false, false, false, false] rfl rfl (any_of HT_.out (by kernel_rfl)) (fun _ _ _ h => h) (Or.inl ⟨by rfl, ?_⟩) ?_ ?_
                            rotate_left
                            · intro w'
                              go_simp
                              with_reducible rfl
                            rotate_left
                            · simp only [Act.put, List.setIfInBounds_toArray, List.set_cons_zero, List.set_cons_succ, i64_w, i32_w]
                              rfl
                            refine pure_ (i := 3) (N := some 42) (v := ?_) (a' := ?_) #[true, true, true, true, false, false, false, false, false, false, false, false, false, false, false, false, false, false, false, false] rfl rfl (any_of HT_.out (by kernel_rfl)) (fun _ _ _ h => h) (Or.inl ⟨by rfl, ?_⟩) ?_ ?_
                            rotate_left
                            · intro w'
                              go_simp
                              with_reducible rfl
                            rotate_left
                            · simp only [Act.put, List.setIfInBounds_toArray, List.set_cons_zero, List.set_cons_succ, i64_w, i32_w]
                              rfl
                            refine pure_ (i := 5) (N := some 44) (v := ?_) (a' := ?_) #[true, true, true, true, false, true, false, false, false, false, false, false, false, false, false, false, false, false, false, false] rfl rfl (any_of HT_.out (by kernel_rfl)) (fun _ _ _ h => h) (Or.inl ⟨by rfl, ?_⟩) ?_ ?_
                            rotate_left
                            · intro w'
                              go_simp
                              with_reducible rfl
                            rotate_left
                            · simp only [Act.put, List.setIfInBounds_toArray, List.set_cons_zero, List.set_cons_succ, i64_w, i32_w]
                              rfl
                            refine pure_ (i := 9) (N := some 48) (v := ?_) (a' := ?_) #[true, true, true, true, false, true, false, false, false, true, false, false, false, false, false, false, false, false, false, false] rfl rfl (any_of HT_.out (by kernel_rfl)) (fun _ _ _ h => h) (Or.inl ⟨by rfl, ?_⟩) ?_ ?_
                            rotate_left
                            · intro w'
                              go_simp
                              with_reducible rfl
                            rotate_left
                            · simp only [Act.put, List.setIfInBounds_toArray, List.set_cons_zero, List.set_cons_succ, i64_w, i32_w]
                              rfl
                            refine pure_ (i := 10) (N := some 49) (v := ?_) (a' := ?_) #[true, true, true, true, false, true, false, false, false, true, true, false, false, false, false, false, false, false, false, false] rfl rfl (any_of HT_.out (by kernel_rfl)) (fun _ _ _ h => h) (Or.inl ⟨by rfl, ?_⟩) ?_ ?_
                            rotate_left
                            · intro w'
                              go_simp
                              with_reducible rfl
                            rotate_left
                            · simp only [Act.put, List.setIfInBounds_toArray, List.set_cons_zero, List.set_cons_succ, i64_w, i32_w]
                              rfl
                            refine pure_ (i := 11) (N := some 50) (v := ?_) (a' := ?_) #[true, true, true, true, false, true, false, false, false, true, true, true, false, false, false, false, false, false, false, false] rfl rfl (any_of HT_.out (by kernel_rfl)) (fun _ _ _ h => h) (Or.inl ⟨by rfl, ?_⟩) ?_ ?_
                            rotate_left
                            · intro w'
                              go_simp
                              with_reducible rfl
                            rotate_left
                            · simp only [Act.put, List.setIfInBounds_toArray, List.set_cons_zero, List.set_cons_succ, i64_w, i32_w]
                              rfl
                            refine take_ (i := 4) (N := some 43) (v := ?_) (a' := ?_) #[true, true, true, true, true, true, false, false, false, true, true, true, false, false, false, false, false, false, false, false] rfl rfl (take_ofW HT_.out HW_.out (by kernel_rfl)) (fun _ _ _ h => h) (Or.inl ⟨by rfl, ?_⟩) hHeld ?_ ?_
                            rotate_left
                            · rintro w' ⟨s0, s1, s2, s3, s4, s5, s6⟩
                              go_simp
                              with_reducible rfl
                            rotate_left
                            · simp only [Act.put, List.setIfInBounds_toArray, List.set_cons_zero, List.set_cons_succ, i64_w, i32_w]
                              rfl
                            refine take_ (i := 12) (N := some 51) (v := ?_) (a' := ?_) #[true, true, true, true, true, true, false, false, false, true, true, true, true, false, false, false, false, false, false, false] rfl rfl (take_ofW HT_.out HW_.out (by kernel_rfl)) (fun _ _ _ h => h) (Or.inl ⟨by rfl, ?_⟩) hHeld ?_ ?_
                            rotate_left
                            · rintro w' ⟨s0, s1, s2, s3, s4, s5, s6⟩
                              go_simp
                              with_reducible rfl
                            rotate_left
                            · simp only [Act.put, List.setIfInBounds_toArray, List.set_cons_zero, List.set_cons_succ, i64_w, i32_w]
                              rfl
                            refine one_ (i := 6) (N := some 45) #[true, true, true, true, true, true, true, false, false, true, true, true, true, false, false, false, false, false, false, false] rfl rfl (one_of HT_.out (by kernel_rfl)) (by decide) (fun K hK => ?_)
                            refine goes_ Try.func58 (by kernel_rfl) rfl #[.slice (some ad173) l0.length c0, .int .i64 ((rd_T38 l0 x6_1).f3), .int .i64 x6_1] (by rfl) rfl rfl (by (try simp only [List.map_toArray, List.map_cons, List.map_nil]); first | done | rfl | (simp only [List.length_drop, List.length_take]; rfl)) ?_
                            with_reducible refine (tamisref23_Marked.calls kj8 _ _ l0 ((rd_T38 l0 x6_1).f3) x6_1 t178 _ ?side1 ?side2 A19.out).mono ?_
                            (case side1 => repeat (first | exact (Kd.C_below HR0.out HB.out) | (with_reducible refine Kd.C_alloc ?_ _) | (with_reducible refine Kd.C_drewN ?_ _) | (with_reducible refine Kd.C_drew ?_)))
                            (case side2 => exact HC0.out)
                            rintro e w' ⟨rfl, ⟨nd, rfl⟩⟩
                            refine ⟨_, rfl, ?_⟩
                            refine hK.out _ _ ⟨(blk_cell BK174.out 0).trans rfl, (blk_cell BK174.out 1).trans rfl, (blk_cell BK174.out 2).trans rfl, (blk_cell BK174.out 3).trans rfl, (blk_cell BK174.out 4).trans rfl, hHeld.2.2.2.2.2.1, hHeld.2.2.2.2.2.2⟩ (fun hHeld => ?_)
                            clear hK K
                            refine norm_ (a' := ?_) ?_ ?_
                            rotate_left
                            · show Act.put _ (some 45) _ = _
                              simp only [Act.put, List.setIfInBounds_toArray, List.set_cons_zero, List.set_cons_succ, i64_w, i32_w]
                              rfl
                            refine pure_ (i := 7) (N := some 46) (v := ?_) (a' := ?_) #[true, true, true, true, true, true, true, true, false, true, true, true, true, false, false, false, false, false, false, false] rfl rfl (any_of HT_.out (by kernel_rfl)) (fun _ _ _ h => h) (Or.inl ⟨by rfl, ?_⟩) ?_ ?_
                            rotate_left
                            · intro w'
                              go_simp
                              with_reducible rfl
                            rotate_left
                            · simp only [Act.put, List.setIfInBounds_toArray, List.set_cons_zero, List.set_cons_succ, i64_w, i32_w]
                              rfl
                            refine take_ (i := 8) (N := some 47) (v := ?_) (a' := ?_) #[true, true, true, true, true, true, true, true, true, true, true, true, true, false, false, false, false, false, false, false] rfl rfl (take_ofW HT_.out HW_.out (by kernel_rfl)) (fun _ _ _ h => h) (Or.inl ⟨by rfl, ?_⟩) hHeld ?_ ?_
                            rotate_left
                            · rintro w' ⟨s0, s1, s2, s3, s4, s5, s6⟩
                              go_simp
                              with_reducible rfl
                            rotate_left
                            · simp only [Act.put, List.setIfInBounds_toArray, List.set_cons_zero, List.set_cons_succ, i64_w, i32_w]
                              rfl
                            refine pure_ (i := 13) (N := some 52) (v := ?_) (a' := ?_) #[true, true, true, true, true, true, true, true, true, true, true, true, true, true, false, false, false, false, false, false] rfl rfl (any_of HT_.out (by kernel_rfl)) (fun _ _ _ h => h) (Or.inl ⟨by rfl, ?_⟩) ?_ ?_
                            rotate_left
                            · intro w'
                              go_simp
                              with_reducible rfl
                            rotate_left
                            · simp only [Act.put, List.setIfInBounds_toArray, List.set_cons_zero, List.set_cons_succ, i64_w, i32_w]
                              rfl
                            refine pure_ (i := 14) (N := some 53) (v := ?_) (a' := ?_) #[true, true, true, true, true, true, true, true, true, true, true, true, true, true, true, false, false, false, false, false] rfl rfl (any_of HT_.out (by kernel_rfl)) (fun _ _ _ h => h) (Or.inl ⟨by rfl, ?_⟩) ?_ ?_
                            rotate_left
                            · intro w'
                              go_simp
                              with_reducible rfl
                            rotate_left
                            · simp only [Act.put, List.setIfInBounds_toArray, List.set_cons_zero, List.set_cons_succ, i64_w, i32_w]
                              rfl
                            refine pure_ (i := 15) (N := some 54) (v := ?_) (a' := ?_) #[true, true, true, true, true, true, true, true, true, true, true, true, true, true, true, true, false, false, false, false] rfl rfl (any_of HT_.out (by kernel_rfl)) (fun _ _ _ h => h) (Or.inl ⟨by rfl, ?_⟩) ?_ ?_
                            rotate_left
                            · intro w'
                              go_simp
                              with_reducible rfl
                            rotate_left
                            · simp only [Act.put, List.setIfInBounds_toArray, List.set_cons_zero, List.set_cons_succ, i64_w, i32_w]
                              rfl
                            refine pure_ (i := 16) (N := some 55) (v := ?_) (a' := ?_) #[true, true, true, true, true, true, true, true, true, true, true, true, true, true, true, true, true, false, false, false] rfl rfl (any_of HT_.out (by kernel_rfl)) (fun _ _ _ h => h) (Or.inl ⟨by rfl, ?_⟩) ?_ ?_
                            rotate_left
                            · intro w'
                              go_simp
                              with_reducible rfl
                            rotate_left
                            · simp only [Act.put, List.setIfInBounds_toArray, List.set_cons_zero, List.set_cons_succ, i64_w, i32_w]
                              rfl
                            refine last_ (i := 17) (N := some 56) #[true, true, true, true, true, true, true, true, true, true, true, true, true, true, true, true, true, true, false, false] rfl rfl (one_of HT_.out (by kernel_rfl)) (by decide) (fun K hK => ?_)
                            refine value_ (w1 := ?_) (v := ?_) (by rfl) rfl ?_ ?_
                            rotate_left 2
                            · go_simp
                              constructor
                              · rfl
                              · rfl
                            refine hK.out _ _ ?_
                            clear hK K
                            refine norm_ (a' := ?_) ?_ ?_
                            rotate_left
                            · show Act.put _ (some 56) _ = _
                              simp only [Act.put, List.setIfInBounds_toArray, List.set_cons_zero, List.set_cons_succ, i64_w, i32_w]
                              rfl
                            refine last_ (i := 18) (N := some 57) #[true, true, true, true, true, true, true, true, true, true, true, true, true, true, true, true, true, true, true, false] rfl rfl (one_of HT_.out (by kernel_rfl)) (by decide) (fun K hK => ?_)
                            refine Kd.R_append_step k56 (w0 := w) w.heap.size (by rfl) (.tmp 39) (.tmp 56) 45 56 (.agg #[(.int .u16 0), (.int .u8 0), (.int .u8 0), (.int .u32 0)]) 8 rfl Try.underlying45 info56 rfl (by decide) (by omega) u5 x5_8 (⟨5, 0, 0, (wrap64 ((wrap64 ((rd t170 t178) - (rd t170 x6_1))) - 1)) % 4294967296⟩ : S56) [.int .u16 5, .int .u8 0, .int .u8 0, .int .u32 ((wrap64 ((wrap64 ((rd t170 t178) - (rd t170 x6_1))) - 1)) % 4294967296)] (fun _ => True) (fun _ => False) rfl rfl ?aP (fun _ hk => hk.elim) ?aF ?aO ?aB ?aS ?aL ?_
                            (case aP => exact k56_mkM _ _ _ (⟨5, 0, 0, (wrap64 ((wrap64 ((rd t170 t178) - (rd t170 x6_1))) - 1)) % 4294967296⟩ : S56))
                            (case aB => exact (by repeat (first | (with_reducible first | exact HB.out | apply below_alloc | apply pw_below_drewN | apply below_drew1 | refine below_set ?_ GE174.out) | exact HB.out)))
                            (case aF => exact (fun _ _ => trivial))
                            (case aO => exact (by (with_reducible repeat (first | apply Kd.R_alloc | apply Kd.R_drewN | apply Kd.R_drew)); exact HO_5.out))
                            (case aS => exact (below_size (by repeat (first | (with_reducible first | exact HB.out | apply below_alloc | apply pw_below_drewN | apply below_drew1 | refine below_set ?_ GE174.out) | exact HB.out))))
                            (case aL => have := LMc24.out; omega)
                            intro v182 w27 ho hb hg hat
                            rw [← Ny181.out] at ho
                            have n0_ := Aside0.mk (Kd.R_over' (by (with_reducible repeat (first | apply Kd.R_alloc | apply Kd.R_drewN | apply Kd.R_drew)); exact HO_3.out) (Kd.R_typed (by (with_reducible repeat (first | apply Kd.R_alloc | apply Kd.R_drewN | apply Kd.R_drew)); exact HO_5.out)) (by decide) hg)
                            have n1_ := Aside0.mk (Kd.R_over' (by (with_reducible repeat (first | apply Kd.R_alloc | apply Kd.R_drewN | apply Kd.R_drew)); exact HO_4.out) (Kd.R_typed (by (with_reducible repeat (first | apply Kd.R_alloc | apply Kd.R_drewN | apply Kd.R_drew)); exact HO_5.out)) (by decide) hg)
                            have n2_ := Aside0.mk (blk_grown (g := gb174) (o := .cells #[.int .i64 ((rd_T38 l0 x6_1).f0), .int .u16 ((rd_T38 l0 x6_1).f1), .int .u32 ((rd_T38 l0 x6_1).f2), .int .i64 ((rd_T38 l0 x6_1).f3), .int .i64 ((rd_T38 l0 x6_1).f4)] 38 (0, 0)) (by (with_reducible repeat (first | refine blk_drewN ?_ _ | refine blk_drew ?_ | refine blk_alloc ?_ _)); exact BK174.out) hg (Kd.R_ne HO_5.out BK174.out (by decide)))
                            have n3_ := Aside0.mk (hb)
                            have n4_ := Aside0.mk (ho)
                            clear HO_3
                            clear HO_4
                            clear BK174
                            clear HB
                            clear HO_5
                            have HO_3 := n0_
                            have HO_4 := n1_
                            have BK174 := n2_
                            have HB := n3_
                            have HO183 := n4_
                            clear n0_ n1_ n2_ n3_ n4_
                            clear ho hb hg hat
                            refine hK.out _ _ ?_
                            clear hK K
                            refine norm_ (a' := ?_) ?_ ?_
                            rotate_left
                            · show Act.put _ (some 57) _ = _
                              simp only [Act.put, List.setIfInBounds_toArray, List.set_cons_zero, List.set_cons_succ, i64_w, i32_w]
                              rfl
                            refine pure_ (i := 19) (N := some 5) (v := ?_) (a' := ?_) #[true, true, true, true, true, true, true, true, true, true, true, true, true, true, true, true, true, true, true, true] rfl rfl (any_of HT_.out (by kernel_rfl)) (fun _ _ _ h => h) (Or.inl ⟨by rfl, ?_⟩) ?_ ?_
                            rotate_left
                            · intro w'
                              go_simp
                              with_reducible rfl
                            rotate_left
                            · simp only [Act.put, List.setIfInBounds_toArray, List.set_cons_zero, List.set_cons_succ, i64_w, i32_w]
                              rfl
                            refine done_ (done_of HT_.out (by kernel_rfl)) ?_
                            try go_wp2
                            go_meet
                            case rel => exact ⟨_, (y181), H', ⟨by have := HK1.out; have := HJ8.out; first | omega | exact Nat.le_refl _⟩, ⟨by (with_reducible repeat (first | apply Kd.R_alloc | apply Kd.R_drewN | apply Kd.R_drew)); exact HO_3.out⟩, ⟨by (with_reducible repeat (first | apply Kd.R_alloc | apply Kd.R_drewN | apply Kd.R_drew)); exact HO_4.out⟩, ⟨by (with_reducible repeat (first | apply Kd.R_alloc | apply Kd.R_drewN | apply Kd.R_drew)); exact HO183.out⟩, ⟨by (with_reducible repeat (first | refine blk_drewN ?_ _ | refine blk_drew ?_ | refine blk_alloc ?_ _)); exact BK174.out⟩, ⟨by repeat (first | (with_reducible first | exact HB.out | apply below_alloc | apply pw_below_drewN | apply below_drew1 | refine below_set ?_ GE174.out) | exact HB.out)⟩⟩
                          · rw [if_neg c24] at H
                            exact absurd H (by simp)
                        · rw [if_neg c23] at H
                          exact absurd H (by simp)
                      · rw [if_neg c22] at H
                        exact absurd H (by simp)
                    · rw [if_neg c21] at H
                      exact absurd H (by simp)
                  · rw [if_neg c20] at H
                    exact absurd H (by simp)
                · rw [if_neg c18] at H
                  have c18b0 : (((rd_T38 l0 x6_1).f0) == 2) = false := beq_eq_false_iff_ne.mpr c18
                  have c18b1 : (((rd_T38 l0 x6_1).f0) != 2) = true := bne_iff_ne.mpr c18
                  (first | rw [c18b0] | (simp only [i64_w, i32_w]; rw [c18b0]) | skip)
                  have H' := Aside0.mk H
                  clear H
                  go_wp2
                  go_meet
                  case rel => exact ⟨_, (x5_8), H', ⟨by have := HK1.out; have := HJ8.out; first | omega | exact Nat.le_refl _⟩, ⟨by (with_reducible repeat (first | apply Kd.R_alloc | apply Kd.R_drewN | apply Kd.R_drew)); exact HO_3.out⟩, ⟨by (with_reducible repeat (first | apply Kd.R_alloc | apply Kd.R_drewN | apply Kd.R_drew)); exact HO_4.out⟩, ⟨by (with_reducible repeat (first | apply Kd.R_alloc | apply Kd.R_drewN | apply Kd.R_drew)); exact HO_5.out⟩, ⟨by (with_reducible repeat (first | refine blk_drewN ?_ _ | refine blk_drew ?_ | refine blk_alloc ?_ _)); exact BK174.out⟩, ⟨by repeat (first | (with_reducible first | exact HB.out | apply below_alloc | apply pw_below_drewN | apply below_drew1 | refine below_set ?_ GE174.out) | exact HB.out)⟩⟩
              case rest =>
                clear HC16
                try clear c1
                try clear p1
                try clear q1
                try clear hx1
                try clear c2
                try clear p2
                try clear c5
                try clear p6
                try clear c7
                try clear c7b0
                try clear c8
                try clear c8b0
                try clear c12
                try clear c12b0
                try clear c12b1
                try clear c13
                try clear p17
                try clear q17
                try clear hx17
                try clear c18
                try clear c18b0
                try clear c18b1
                try clear p18
                try clear q18
                try clear hx18
                try clear c20
                try clear c20b0
                try clear c21
                try clear c21b0
                try clear c22
                try clear c22b0
                try clear c23
                try clear c23b0
                try clear c24
                try clear hcz11_0
                try clear hcz11_1
                try clear hcz11_2
                try clear hcz11_3
                try clear hcz11_4
                try clear hcz14_0
                try clear hcz14_1
                try clear hcz14_2
                try clear hcz14_3
                try clear hcz14_4
                try clear hcz17_0
                try clear hcz17_1
                try clear hcz17_2
                try clear hcz17_3
                try clear hcz17_4
                try clear hfz11_0
                try clear hfz11_1
                try clear hfz11_2
                try clear hfz11_3
                try clear hfz11_4
                try clear hfz14_0
                try clear hfz14_1
                try clear hfz14_2
                try clear hfz14_3
                try clear hfz14_4
                try clear hfz17_0
                try clear hfz17_1
                try clear hfz17_2
                try clear hfz17_3
                try clear hfz17_4
                try clear hx173_0
                try clear hx173_1
                try clear hx173_2
                try clear hx173_3
                try clear hx173_4
                try clear hx179_0
                try clear hx180_0
                try clear p1
                try clear p173
                try clear p179
                try clear p180
                try clear p2
                try clear q1
                try clear q173
                try clear q179
                try clear q180
                obtain ⟨kq, x5_15, HA, HJ15, HO_3, HO_4, HO_5, BK174, HB⟩ := hcut
                cases kq with
                | zero => exact absurd HA.out (by simp [tamisref23_Emit.j2])
                | succ kj15 =>
                  have H := HA.out
                  clear HA
                  simp only [tamisref23_Emit.j2] at H
                  by_cases c28 : ((rd_T38 l0 x6_1).f0) = 3
                  · rw [if_pos c28] at H
                    have c28b0 : (((rd_T38 l0 x6_1).f0) == 3) = true := beq_iff_eq.mpr c28
                    have c28b1 : (((rd_T38 l0 x6_1).f0) != 3) = false := bne_eq_false_iff_eq.mpr c28
                    clear c28
                    replace H := Option.bind_eq_some_iff.mp H
                    obtain ⟨t184, A290, H⟩ := H
                    replace H : (if 0 ≤ t184 then (if t184 < (t170.length : Int) then (if 0 ≤ x6_1 then (if x6_1 < (t170.length : Int) then ((tamisref23_Marked.f kj15 l0 ((rd_T38 l0 x6_1).f4) x6_1).bind fun t187 => (if 0 ≤ t187 then (if t187 < (t170.length : Int) then (if x6_1 < (t167.length : Int) then (if rdOf false t167 x6_1 = true then ((some (([(⟨((rd_T38 l0 x6_1).f1), 0, 1, ((rd_T38 l0 x6_1).f2)⟩ : S56), (⟨5, 0, 0, (wrap64 ((wrap64 ((wrap64 ((rd t170 t184) - (rd t170 x6_1))) - 1)) - 1)) % 4294967296⟩ : S56), (⟨5, 0, 0, (wrap64 ((wrap64 ((wrap64 ((rd t170 t187) - (rd t170 x6_1))) - 1)) - 2)) % 4294967296⟩ : S56)] : List (S56)) : List (S56))).bind fun y191 => (if x5_15.length + y191.length < 17592186044416 then (tamisref23_Emit.l0 kj15 l0 t167 t170 (x5_15 ++ y191) (wrap64 (x6_1 + 1))) else (none))) else (if x5_15.length < 17592186044416 then (tamisref23_Emit.l0 kj15 l0 t167 t170 (x5_15 ++ [(⟨((rd_T38 l0 x6_1).f1), (wrap64 ((wrap64 ((rd t170 t184) - (rd t170 x6_1))) - 1)) % 256, (wrap64 ((wrap64 ((rd t170 t187) - (rd t170 x6_1))) - 1)) % 256, ((rd_T38 l0 x6_1).f2)⟩ : S56)]) (wrap64 (x6_1 + 1))) else (none))) else (none)) else (none)) else (none))) else (none)) else (none)) else (none)) else (none)) = some r := H
                    have A29 := Aside0.mk A290
                    clear A290
                    by_cases c30 : 0 ≤ t184
                    · rw [if_pos c30] at H
                      have c30b0 : decide (0 ≤ t184) = true := decide_eq_true c30
                      clear c30
                      by_cases c31 : t184 < (t170.length : Int)
                      · rw [if_pos c31] at H
                        have c31b0 : decide (t184 < (t170.length : Int)) = true := decide_eq_true c31
                        clear c31
                        by_cases c32 : 0 ≤ x6_1
                        · rw [if_pos c32] at H
                          have c32b0 : decide (0 ≤ x6_1) = true := decide_eq_true c32
                          clear c32
                          by_cases c33 : x6_1 < (t170.length : Int)
                          · rw [if_pos c33] at H
                            have c33b0 : decide (x6_1 < (t170.length : Int)) = true := decide_eq_true c33
                            clear c33
                            replace H := Option.bind_eq_some_iff.mp H
                            obtain ⟨t187, A340, H⟩ := H
                            replace H : (if 0 ≤ t187 then (if t187 < (t170.length : Int) then (if x6_1 < (t167.length : Int) then (if rdOf false t167 x6_1 = true then ((some (([(⟨((rd_T38 l0 x6_1).f1), 0, 1, ((rd_T38 l0 x6_1).f2)⟩ : S56), (⟨5, 0, 0, (wrap64 ((wrap64 ((wrap64 ((rd t170 t184) - (rd t170 x6_1))) - 1)) - 1)) % 4294967296⟩ : S56), (⟨5, 0, 0, (wrap64 ((wrap64 ((wrap64 ((rd t170 t187) - (rd t170 x6_1))) - 1)) - 2)) % 4294967296⟩ : S56)] : List (S56)) : List (S56))).bind fun y191 => (if x5_15.length + y191.length < 17592186044416 then (tamisref23_Emit.l0 kj15 l0 t167 t170 (x5_15 ++ y191) (wrap64 (x6_1 + 1))) else (none))) else (if x5_15.length < 17592186044416 then (tamisref23_Emit.l0 kj15 l0 t167 t170 (x5_15 ++ [(⟨((rd_T38 l0 x6_1).f1), (wrap64 ((wrap64 ((rd t170 t184) - (rd t170 x6_1))) - 1)) % 256, (wrap64 ((wrap64 ((rd t170 t187) - (rd t170 x6_1))) - 1)) % 256, ((rd_T38 l0 x6_1).f2)⟩ : S56)]) (wrap64 (x6_1 + 1))) else (none))) else (none)) else (none)) else (none)) = some r := H
                            have A34 := Aside0.mk A340
                            clear A340
                            by_cases c35 : 0 ≤ t187
                            · rw [if_pos c35] at H
                              have c35b0 : decide (0 ≤ t187) = true := decide_eq_true c35
                              clear c35
                              by_cases c36 : t187 < (t170.length : Int)
                              · rw [if_pos c36] at H
                                have c36b0 : decide (t187 < (t170.length : Int)) = true := decide_eq_true c36
                                clear c36
                                by_cases c37 : x6_1 < (t167.length : Int)
                                · rw [if_pos c37] at H
                                  have c37b0 : decide (x6_1 < (t167.length : Int)) = true := decide_eq_true c37
                                  clear c37
                                  obtain ⟨bq38, hbq38⟩ : ∃ b_ : Bool, b_ = (rdOf false t167 x6_1) := ⟨_, rfl⟩
                                  replace H : (if bq38 = true then ((some (([(⟨((rd_T38 l0 x6_1).f1), 0, 1, ((rd_T38 l0 x6_1).f2)⟩ : S56), (⟨5, 0, 0, (wrap64 ((wrap64 ((wrap64 ((rd t170 t184) - (rd t170 x6_1))) - 1)) - 1)) % 4294967296⟩ : S56), (⟨5, 0, 0, (wrap64 ((wrap64 ((wrap64 ((rd t170 t187) - (rd t170 x6_1))) - 1)) - 2)) % 4294967296⟩ : S56)] : List (S56)) : List (S56))).bind fun y191 => (if x5_15.length + y191.length < 17592186044416 then (tamisref23_Emit.l0 kj15 l0 t167 t170 (x5_15 ++ y191) (wrap64 (x6_1 + 1))) else (none))) else (if x5_15.length < 17592186044416 then (tamisref23_Emit.l0 kj15 l0 t167 t170 (x5_15 ++ [(⟨((rd_T38 l0 x6_1).f1), (wrap64 ((wrap64 ((rd t170 t184) - (rd t170 x6_1))) - 1)) % 256, (wrap64 ((wrap64 ((rd t170 t187) - (rd t170 x6_1))) - 1)) % 256, ((rd_T38 l0 x6_1).f2)⟩ : S56)]) (wrap64 (x6_1 + 1))) else (none))) = some r := by rw [← hbq38] at H; exact H
                                  have Nbq38 := Aside0.mk hbq38
                                  clear hbq38
                                  by_cases c39 : bq38 = true
                                  · subst c39
                                    have H1 : ((some (([(⟨((rd_T38 l0 x6_1).f1), 0, 1, ((rd_T38 l0 x6_1).f2)⟩ : S56), (⟨5, 0, 0, (wrap64 ((wrap64 ((wrap64 ((rd t170 t184) - (rd t170 x6_1))) - 1)) - 1)) % 4294967296⟩ : S56), (⟨5, 0, 0, (wrap64 ((wrap64 ((wrap64 ((rd t170 t187) - (rd t170 x6_1))) - 1)) - 2)) % 4294967296⟩ : S56)] : List (S56)) : List (S56))).bind fun y191 => (if x5_15.length + y191.length < 17592186044416 then (tamisref23_Emit.l0 kj15 l0 t167 t170 (x5_15 ++ y191) (wrap64 (x6_1 + 1))) else (none))) = some r := by rw [if_pos rfl] at H; exact H
                                    clear H
                                    have H := H1
                                    clear H1
                                    obtain ⟨y191, hy191⟩ : ∃ y_ : List (S56), y_ = (([(⟨((rd_T38 l0 x6_1).f1), 0, 1, ((rd_T38 l0 x6_1).f2)⟩ : S56), (⟨5, 0, 0, (wrap64 ((wrap64 ((wrap64 ((rd t170 t184) - (rd t170 x6_1))) - 1)) - 1)) % 4294967296⟩ : S56), (⟨5, 0, 0, (wrap64 ((wrap64 ((wrap64 ((rd t170 t187) - (rd t170 x6_1))) - 1)) - 2)) % 4294967296⟩ : S56)] : List (S56))) := ⟨_, rfl⟩
                                    replace H : (if x5_15.length + y191.length < 17592186044416 then (tamisref23_Emit.l0 kj15 l0 t167 t170 (x5_15 ++ y191) (wrap64 (x6_1 + 1))) else (none)) = some r := by first | (rw [hy191]; with_reducible exact H) | (have H2_ := (Option.bind_some _ _).symm.trans H; rw [hy191]; with_reducible exact H2_) | (have H2_ := (Option.bind_some _ _).symm.trans H; with_reducible exact H2_) | with_reducible exact H | (rw [hy191]; exact H) | exact H
                                    have Ny191 := Aside0.mk hy191
                                    clear hy191
                                    by_cases c40 : x5_15.length + y191.length < 17592186044416
                                    · rw [if_pos c40] at H
                                      have LMc40 := Aside0.mk c40
                                      clear c40
                                      obtain ⟨y194, hy194⟩ : ∃ y_ : List (S56), y_ = (x5_15 ++ y191) := ⟨_, rfl⟩
                                      replace H : (tamisref23_Emit.l0 kj15 l0 t167 t170 y194 (wrap64 (x6_1 + 1))) = some r := by first | (rw [hy194]; with_reducible exact H) | (have H2_ := (Option.bind_some _ _).symm.trans H; rw [hy194]; with_reducible exact H2_) | (have H2_ := (Option.bind_some _ _).symm.trans H; with_reducible exact H2_) | with_reducible exact H | (rw [hy194]; exact H) | exact H
                                      have Ny194 := Aside0.mk hy194
                                      clear hy194
                                      have H' := Aside0.mk H
                                      clear H
                                      have hcz41_0 : wc.cell? ⟨gb174, 0, none⟩ = some (.int .i64 ((rd_T38 l0 x6_1).f0)) := (blk_cell BK174.out 0).trans rfl
                                      have hcz41_1 : wc.cell? ⟨gb174, 1, none⟩ = some (.int .u16 ((rd_T38 l0 x6_1).f1)) := (blk_cell BK174.out 1).trans rfl
                                      have hcz41_2 : wc.cell? ⟨gb174, 2, none⟩ = some (.int .u32 ((rd_T38 l0 x6_1).f2)) := (blk_cell BK174.out 2).trans rfl
                                      have hcz41_3 : wc.cell? ⟨gb174, 3, none⟩ = some (.int .i64 ((rd_T38 l0 x6_1).f3)) := (blk_cell BK174.out 3).trans rfl
                                      have hcz41_4 : wc.cell? ⟨gb174, 4, none⟩ = some (.int .i64 ((rd_T38 l0 x6_1).f4)) := (blk_cell BK174.out 4).trans rfl
                                      have hfz41_0 := blk_frozen BK174.out 0
                                      have hfz41_1 := blk_frozen BK174.out 1
                                      have hfz41_2 := blk_frozen BK174.out 2
                                      have hfz41_3 := blk_frozen BK174.out 3
                                      have hfz41_4 := blk_frozen BK174.out 4
                                      try go_wp2
                                      have n0_ := Aside0.mk (Kd.R_drew HO_3.out)
                                      have n1_ := Aside0.mk (Kd.R_drew HO_4.out)
                                      have n2_ := Aside0.mk (Kd.R_drew HO_5.out)
                                      have n3_ := Aside0.mk (blk_drew BK174.out)
                                      have n4_ := Aside0.mk (below_drew1 HB.out)
                                      clear HO_3
                                      clear HO_4
                                      clear HO_5
                                      clear BK174
                                      clear HB
                                      have HO_3 := n0_
                                      have HO_4 := n1_
                                      have HO_5 := n2_
                                      have BK174 := n3_
                                      have HB := n4_
                                      clear n0_ n1_ n2_ n3_ n4_
                                      obtain ⟨Ao43, co43, eo43⟩ := Kd.R_slice HO_4.out
                                      (first | subst eo43 | (injection eo43 with f1_ f2_ f3_; have f4_ := f1_.symm; have f5_ := f3_.symm; clear f1_ f2_ f3_; subst f4_; subst f5_))
                                      have p186 : 0 ≤ (x6_1 : Int) := of_decide_eq_true (by first | (with_reducible assumption) | assumption)
                                      have q186 : x6_1 < (t170.length : Int) := of_decide_eq_true (by first | (with_reducible assumption) | assumption)
                                      obtain ⟨ad186, e186, hx186_0⟩ := Kd.at_int (Kd.R_reads' HO_4.out).2.2 x6_1 p186 q186
                                      cases e186
                                      replace p186 := eq_true p186
                                      replace q186 := eq_true q186
                                      have p189 : 0 ≤ (x6_1 : Int) := of_decide_eq_true (by first | (with_reducible assumption) | assumption)
                                      have q189 : x6_1 < (t170.length : Int) := of_decide_eq_true (by first | (with_reducible assumption) | assumption)
                                      obtain ⟨ad189, e189, hx189_0⟩ := Kd.at_int (Kd.R_reads' HO_4.out).2.2 x6_1 p189 q189
                                      obtain rfl : ad186 = ad189 := (by injection e189)
                                      replace p189 := eq_true p189
                                      replace q189 := eq_true q189
                                      have p185 : 0 ≤ (t184 : Int) := of_decide_eq_true (by first | (with_reducible assumption) | assumption)
                                      have q185 : t184 < (t170.length : Int) := of_decide_eq_true (by first | (with_reducible assumption) | assumption)
                                      obtain ⟨ad185, e185, hx185_0⟩ := Kd.at_int (Kd.R_reads' HO_4.out).2.2 t184 p185 q185
                                      obtain rfl : ad186 = ad185 := (by injection e185)
                                      replace p185 := eq_true p185
                                      replace q185 := eq_true q185
                                      have p188 : 0 ≤ (t187 : Int) := of_decide_eq_true (by first | (with_reducible assumption) | assumption)
                                      have q188 : t187 < (t170.length : Int) := of_decide_eq_true (by first | (with_reducible assumption) | assumption)
                                      obtain ⟨ad188, e188, hx188_0⟩ := Kd.at_int (Kd.R_reads' HO_4.out).2.2 t187 p188 q188
                                      obtain rfl : ad186 = ad188 := (by injection e188)
                                      replace p188 := eq_true p188
                                      replace q188 := eq_true q188
                                      refine start_ (n := 30) (S := fun w' => w'.cell? ⟨gb174, 0, none⟩ = some (.int .i64 ((rd_T38 l0 x6_1).f0)) ∧ w'.cell? ⟨gb174, 1, none⟩ = some (.int .u16 ((rd_T38 l0 x6_1).f1)) ∧ w'.cell? ⟨gb174, 2, none⟩ = some (.int .u32 ((rd_T38 l0 x6_1).f2)) ∧ w'.cell? ⟨gb174, 3, none⟩ = some (.int .i64 ((rd_T38 l0 x6_1).f3)) ∧ w'.cell? ⟨gb174, 4, none⟩ = some (.int .i64 ((rd_T38 l0 x6_1).f4)) ∧ w'.cell? (ad186.add (x6_1).toNat) = some (.int .i64 (rd t170 x6_1)) ∧ w'.cell? (ad186.add (x6_1).toNat) = some (.int .i64 (rd t170 x6_1)) ∧ w'.cell? (ad186.add (t184).toNat) = some (.int .i64 (rd t170 t184)) ∧ w'.cell? (ad186.add (t187).toNat) = some (.int .i64 (rd t170 t187))) (ds := []) #[false, false, false, false, false, false, false, false, false, false, false, false, false, false, false, false, false, false, false, false, false, false, false, false, false, false, false, false, false, false] (by kernel_rfl) rfl rfl ⟨(blk_cell BK174.out 0).trans rfl, (blk_cell BK174.out 1).trans rfl, (blk_cell BK174.out 2).trans rfl, (blk_cell BK174.out 3).trans rfl, (blk_cell BK174.out 4).trans rfl, hx186_0, hx189_0, hx185_0, hx188_0⟩ (fun hHeld => ?_); refine with_tabW tamisref23_Emit.tab13 tamisref23_Emit.bits13 (fun HT_ HW_ => ?_)
                                      generalize wc.drew = w42 at HO_3 HO_4 HO_5 BK174 HB hx185_0 hx186_0 hx188_0 hx189_0 hHeld ⊢
                                      refine pure_ (i := 0) (N := some 61) (v := ?_) (a' := ?_) #[true, false, false, false, false, false, false, false, false, false, false, false, false, false, false, false, false, false, false, false, false, false, false, false, false, false, false, false, false, false] rfl rfl (any_of HT_.out (by kernel_rfl)) (fun _ _ _ h => h) (Or.inl ⟨by rfl, ?_⟩) ?_ ?_
                                      rotate_left
                                      · intro w'
                                        go_simp
                                        with_reducible rfl
                                      rotate_left
                                      · simp only [Act.put, List.setIfInBounds_toArray, List.set_cons_zero, List.set_cons_succ, i64_w, i32_w]
                                        rfl
                                      refine pure_ (i := 1) (N := some 62) (v := ?_) (a' := ?_) #[true, true, false, false, false, false, false, false, false, false, false, false, false, false, false, false, false, false, false, false, false, false, false, false, false, false, false, false, false, false] rfl rfl (any_of HT_.out (by kernel_rfl)) (fun _ _ _ h => h) (Or.inl ⟨by rfl, ?_⟩) ?_ ?_
                                      rotate_left
                                      · intro w'
                                        go_simp
                                        with_reducible rfl
                                      rotate_left
                                      · simp only [Act.put, List.setIfInBounds_toArray, List.set_cons_zero, List.set_cons_succ, i64_w, i32_w]
                                        rfl
                                      refine pure_ (i := 2) (N := some 63) (v := ?_) (a' := ?_) #[true, true, true, false, false, false, false, false, false, false, false, false, false, false, false, false, false, false, false, false, false, false, false, false, false, false, false, false, false, false] rfl rfl (any_of HT_.out (by kernel_rfl)) (fun _ _ _ h => h) (Or.inl ⟨by rfl, ?_⟩) ?_ ?_
                                      rotate_left
                                      · intro w'
                                        go_simp
                                        with_reducible rfl
                                      rotate_left
                                      · simp only [Act.put, List.setIfInBounds_toArray, List.set_cons_zero, List.set_cons_succ, i64_w, i32_w]
                                        rfl
                                      refine pure_ (i := 4) (N := some 65) (v := ?_) (a' := ?_) #[true, true, true, false, true, false, false, false, false, false, false, false, false, false, false, false, false, false, false, false, false, false, false, false, false, false, false, false, false, false] rfl rfl (any_of HT_.out (by kernel_rfl)) (fun _ _ _ h => h) (Or.inl ⟨by rfl, ?_⟩) ?_ ?_
                                      rotate_left
                                      · intro w'
                                        go_simp
                                        with_reducible rfl
                                      rotate_left
                                      · simp only [Act.put, List.setIfInBounds_toArray, List.set_cons_zero, List.set_cons_succ, i64_w, i32_w]
                                        rfl
                                      refine pure_ (i := 8) (N := some 69) (v := ?_) (a' := ?_) #[true, true, true, false, true, false, false, false, true, false, false, false, false, false, false, false, false, false, false, false, false, false, false, false, false, false, false, false, false, false] rfl rfl (any_of HT_.out (by kernel_rfl)) (fun _ _ _ h => h) (Or.inl ⟨by rfl, ?_⟩) ?_ ?_
                                      rotate_left
                                      · intro w'
                                        go_simp
                                        with_reducible rfl
                                      rotate_left
                                      · simp only [Act.put, List.setIfInBounds_toArray, List.set_cons_zero, List.set_cons_succ, i64_w, i32_w]
                                        rfl
                                      refine pure_ (i := 9) (N := some 70) (v := ?_) (a' := ?_) #[true, true, true, false, true, false, false, false, true, true, false, false, false, false, false, false, false, false, false, false, false, false, false, false, false, false, false, false, false, false] rfl rfl (any_of HT_.out (by kernel_rfl)) (fun _ _ _ h => h) (Or.inl ⟨by rfl, ?_⟩) ?_ ?_
                                      rotate_left
                                      · intro w'
                                        go_simp
                                        with_reducible rfl
                                      rotate_left
                                      · simp only [Act.put, List.setIfInBounds_toArray, List.set_cons_zero, List.set_cons_succ, i64_w, i32_w]
                                        rfl
                                      refine pure_ (i := 10) (N := some 71) (v := ?_) (a' := ?_) #[true, true, true, false, true, false, false, false, true, true, true, false, false, false, false, false, false, false, false, false, false, false, false, false, false, false, false, false, false, false] rfl rfl (any_of HT_.out (by kernel_rfl)) (fun _ _ _ h => h) (Or.inl ⟨by rfl, ?_⟩) ?_ ?_
                                      rotate_left
                                      · intro w'
                                        go_simp
                                        with_reducible rfl
                                      rotate_left
                                      · simp only [Act.put, List.setIfInBounds_toArray, List.set_cons_zero, List.set_cons_succ, i64_w, i32_w]
                                        rfl
                                      refine pure_ (i := 14) (N := some 75) (v := ?_) (a' := ?_) #[true, true, true, false, true, false, false, false, true, true, true, false, false, false, true, false, false, false, false, false, false, false, false, false, false, false, false, false, false, false] rfl rfl (any_of HT_.out (by kernel_rfl)) (fun _ _ _ h => h) (Or.inl ⟨by rfl, ?_⟩) ?_ ?_
                                      rotate_left
                                      · intro w'
                                        go_simp
                                        with_reducible rfl
                                      rotate_left
                                      · simp only [Act.put, List.setIfInBounds_toArray, List.set_cons_zero, List.set_cons_succ, i64_w, i32_w]
                                        rfl
                                      refine pure_ (i := 15) (N := some 76) (v := ?_) (a' := ?_) #[true, true, true, false, true, false, false, false, true, true, true, false, false, false, true, true, false, false, false, false, false, false, false, false, false, false, false, false, false, false] rfl rfl (any_of HT_.out (by kernel_rfl)) (fun _ _ _ h => h) (Or.inl ⟨by rfl, ?_⟩) ?_ ?_
                                      rotate_left
                                      · intro w'
                                        go_simp
                                        with_reducible rfl
                                      rotate_left
                                      · simp only [Act.put, List.setIfInBounds_toArray, List.set_cons_zero, List.set_cons_succ, i64_w, i32_w]
                                        rfl
                                      refine pure_ (i := 16) (N := some 77) (v := ?_) (a' := ?_) #[true, true, true, false, true, false, false, false, true, true, true, false, false, false, true, true, true, false, false, false, false, false, false, false, false, false, false, false, false, false] rfl rfl (any_of HT_.out (by kernel_rfl)) (fun _ _ _ h => h) (Or.inl ⟨by rfl, ?_⟩) ?_ ?_
                                      rotate_left
                                      · intro w'
                                        go_simp
                                        with_reducible rfl
                                      rotate_left
                                      · simp only [Act.put, List.setIfInBounds_toArray, List.set_cons_zero, List.set_cons_succ, i64_w, i32_w]
                                        rfl
                                      refine pure_ (i := 18) (N := some 79) (v := ?_) (a' := ?_) #[true, true, true, false, true, false, false, false, true, true, true, false, false, false, true, true, true, false, true, false, false, false, false, false, false, false, false, false, false, false] rfl rfl (any_of HT_.out (by kernel_rfl)) (fun _ _ _ h => h) (Or.inl ⟨by rfl, ?_⟩) ?_ ?_
                                      rotate_left
                                      · intro w'
                                        go_simp
                                        with_reducible rfl
                                      rotate_left
                                      · simp only [Act.put, List.setIfInBounds_toArray, List.set_cons_zero, List.set_cons_succ, i64_w, i32_w]
                                        rfl
                                      refine pure_ (i := 22) (N := some 83) (v := ?_) (a' := ?_) #[true, true, true, false, true, false, false, false, true, true, true, false, false, false, true, true, true, false, true, false, false, false, true, false, false, false, false, false, false, false] rfl rfl (any_of HT_.out (by kernel_rfl)) (fun _ _ _ h => h) (Or.inl ⟨by rfl, ?_⟩) ?_ ?_
                                      rotate_left
                                      · intro w'
                                        go_simp
                                        with_reducible rfl
                                      rotate_left
                                      · simp only [Act.put, List.setIfInBounds_toArray, List.set_cons_zero, List.set_cons_succ, i64_w, i32_w]
                                        rfl
                                      refine pure_ (i := 23) (N := some 84) (v := ?_) (a' := ?_) #[true, true, true, false, true, false, false, false, true, true, true, false, false, false, true, true, true, false, true, false, false, false, true, true, false, false, false, false, false, false] rfl rfl (any_of HT_.out (by kernel_rfl)) (fun _ _ _ h => h) (Or.inl ⟨by rfl, ?_⟩) ?_ ?_
                                      rotate_left
                                      · intro w'
                                        go_simp
                                        with_reducible rfl
                                      rotate_left
                                      · simp only [Act.put, List.setIfInBounds_toArray, List.set_cons_zero, List.set_cons_succ, i64_w, i32_w]
                                        rfl
                                      refine pure_ (i := 24) (N := some 85) (v := ?_) (a' := ?_) #[true, true, true, false, true, false, false, false, true, true, true, false, false, false, true, true, true, false, true, false, false, false, true, true, true, false, false, false, false, false] rfl rfl (any_of HT_.out (by kernel_rfl)) (fun _ _ _ h => h) (Or.inl ⟨by rfl, ?_⟩) ?_ ?_
                                      rotate_left
                                      · intro w'
                                        go_simp
                                        with_reducible rfl
                                      rotate_left
                                      · simp only [Act.put, List.setIfInBounds_toArray, List.set_cons_zero, List.set_cons_succ, i64_w, i32_w]
                                        rfl
                                      refine take_ (i := 3) (N := some 64) (v := ?_) (a' := ?_) #[true, true, true, true, true, false, false, false, true, true, true, false, false, false, true, true, true, false, true, false, false, false, true, true, true, false, false, false, false, false] rfl rfl (take_ofW HT_.out HW_.out (by kernel_rfl)) (fun _ _ _ h => h) (Or.inl ⟨by rfl, ?_⟩) hHeld ?_ ?_
                                      rotate_left
                                      · rintro w' ⟨s0, s1, s2, s3, s4, s5, s6, s7, s8⟩
                                        go_simp
                                        with_reducible rfl
                                      rotate_left
                                      · simp only [Act.put, List.setIfInBounds_toArray, List.set_cons_zero, List.set_cons_succ, i64_w, i32_w]
                                        rfl
                                      refine take_ (i := 11) (N := some 72) (v := ?_) (a' := ?_) #[true, true, true, true, true, false, false, false, true, true, true, true, false, false, true, true, true, false, true, false, false, false, true, true, true, false, false, false, false, false] rfl rfl (take_ofW HT_.out HW_.out (by kernel_rfl)) (fun _ _ _ h => h) (Or.inl ⟨by rfl, ?_⟩) hHeld ?_ ?_
                                      rotate_left
                                      · rintro w' ⟨s0, s1, s2, s3, s4, s5, s6, s7, s8⟩
                                        go_simp
                                        with_reducible rfl
                                      rotate_left
                                      · simp only [Act.put, List.setIfInBounds_toArray, List.set_cons_zero, List.set_cons_succ, i64_w, i32_w]
                                        rfl
                                      refine take_ (i := 17) (N := some 78) (v := ?_) (a' := ?_) #[true, true, true, true, true, false, false, false, true, true, true, true, false, false, true, true, true, true, true, false, false, false, true, true, true, false, false, false, false, false] rfl rfl (take_ofW HT_.out HW_.out (by kernel_rfl)) (fun _ _ _ h => h) (Or.inl ⟨by rfl, ?_⟩) hHeld ?_ ?_
                                      rotate_left
                                      · rintro w' ⟨s0, s1, s2, s3, s4, s5, s6, s7, s8⟩
                                        go_simp
                                        with_reducible rfl
                                      rotate_left
                                      · simp only [Act.put, List.setIfInBounds_toArray, List.set_cons_zero, List.set_cons_succ, i64_w, i32_w]
                                        rfl
                                      refine take_ (i := 25) (N := some 86) (v := ?_) (a' := ?_) #[true, true, true, true, true, false, false, false, true, true, true, true, false, false, true, true, true, true, true, false, false, false, true, true, true, true, false, false, false, false] rfl rfl (take_ofW HT_.out HW_.out (by kernel_rfl)) (fun _ _ _ h => h) (Or.inl ⟨by rfl, ?_⟩) hHeld ?_ ?_
                                      rotate_left
                                      · rintro w' ⟨s0, s1, s2, s3, s4, s5, s6, s7, s8⟩
                                        go_simp
                                        with_reducible rfl
                                      rotate_left
                                      · simp only [Act.put, List.setIfInBounds_toArray, List.set_cons_zero, List.set_cons_succ, i64_w, i32_w]
                                        rfl
                                      refine one_ (i := 5) (N := some 66) #[true, true, true, true, true, true, false, false, true, true, true, true, false, false, true, true, true, true, true, false, false, false, true, true, true, true, false, false, false, false] rfl rfl (one_of HT_.out (by kernel_rfl)) (by decide) (fun K hK => ?_)
                                      refine goes_ Try.func58 (by kernel_rfl) rfl #[.slice (some ad173) l0.length c0, .int .i64 ((rd_T38 l0 x6_1).f3), .int .i64 x6_1] (by rfl) rfl rfl (by (try simp only [List.map_toArray, List.map_cons, List.map_nil]); first | done | rfl | (simp only [List.length_drop, List.length_take]; rfl)) ?_
                                      with_reducible refine (tamisref23_Marked.calls kj15 _ _ l0 ((rd_T38 l0 x6_1).f3) x6_1 t184 _ ?side1 ?side2 A29.out).mono ?_
                                      (case side1 => repeat (first | exact (Kd.C_below HR0.out HB.out) | (with_reducible refine Kd.C_alloc ?_ _) | (with_reducible refine Kd.C_drewN ?_ _) | (with_reducible refine Kd.C_drew ?_)))
                                      (case side2 => exact HC0.out)
                                      rintro e w' ⟨rfl, ⟨nd, rfl⟩⟩
                                      refine ⟨_, rfl, ?_⟩
                                      refine hK.out _ _ ⟨(blk_cell BK174.out 0).trans rfl, (blk_cell BK174.out 1).trans rfl, (blk_cell BK174.out 2).trans rfl, (blk_cell BK174.out 3).trans rfl, (blk_cell BK174.out 4).trans rfl, hHeld.2.2.2.2.2.1, hHeld.2.2.2.2.2.2.1, hHeld.2.2.2.2.2.2.2.1, hHeld.2.2.2.2.2.2.2.2⟩ (fun hHeld => ?_)
                                      clear hK K
                                      refine norm_ (a' := ?_) ?_ ?_
                                      rotate_left
                                      · show Act.put _ (some 66) _ = _
                                        simp only [Act.put, List.setIfInBounds_toArray, List.set_cons_zero, List.set_cons_succ, i64_w, i32_w]
                                        rfl
                                      refine pure_ (i := 6) (N := some 67) (v := ?_) (a' := ?_) #[true, true, true, true, true, true, true, false, true, true, true, true, false, false, true, true, true, true, true, false, false, false, true, true, true, true, false, false, false, false] rfl rfl (any_of HT_.out (by kernel_rfl)) (fun _ _ _ h => h) (Or.inl ⟨by rfl, ?_⟩) ?_ ?_
                                      rotate_left
                                      · intro w'
                                        go_simp
                                        with_reducible rfl
                                      rotate_left
                                      · simp only [Act.put, List.setIfInBounds_toArray, List.set_cons_zero, List.set_cons_succ, i64_w, i32_w]
                                        rfl
                                      refine take_ (i := 7) (N := some 68) (v := ?_) (a' := ?_) #[true, true, true, true, true, true, true, true, true, true, true, true, false, false, true, true, true, true, true, false, false, false, true, true, true, true, false, false, false, false] rfl rfl (take_ofW HT_.out HW_.out (by kernel_rfl)) (fun _ _ _ h => h) (Or.inl ⟨by rfl, ?_⟩) hHeld ?_ ?_
                                      rotate_left
                                      · rintro w' ⟨s0, s1, s2, s3, s4, s5, s6, s7, s8⟩
                                        go_simp
                                        with_reducible rfl
                                      rotate_left
                                      · simp only [Act.put, List.setIfInBounds_toArray, List.set_cons_zero, List.set_cons_succ, i64_w, i32_w]
                                        rfl
                                      refine pure_ (i := 12) (N := some 73) (v := ?_) (a' := ?_) #[true, true, true, true, true, true, true, true, true, true, true, true, true, false, true, true, true, true, true, false, false, false, true, true, true, true, false, false, false, false] rfl rfl (any_of HT_.out (by kernel_rfl)) (fun _ _ _ h => h) (Or.inl ⟨by rfl, ?_⟩) ?_ ?_
                                      rotate_left
                                      · intro w'
                                        go_simp
                                        with_reducible rfl
                                      rotate_left
                                      · simp only [Act.put, List.setIfInBounds_toArray, List.set_cons_zero, List.set_cons_succ, i64_w, i32_w]
                                        rfl
                                      refine pure_ (i := 13) (N := some 74) (v := ?_) (a' := ?_) #[true, true, true, true, true, true, true, true, true, true, true, true, true, true, true, true, true, true, true, false, false, false, true, true, true, true, false, false, false, false] rfl rfl (any_of HT_.out (by kernel_rfl)) (fun _ _ _ h => h) (Or.inl ⟨by rfl, ?_⟩) ?_ ?_
                                      rotate_left
                                      · intro w'
                                        go_simp
                                        with_reducible rfl
                                      rotate_left
                                      · simp only [Act.put, List.setIfInBounds_toArray, List.set_cons_zero, List.set_cons_succ, i64_w, i32_w]
                                        rfl
                                      refine one_ (i := 19) (N := some 80) #[true, true, true, true, true, true, true, true, true, true, true, true, true, true, true, true, true, true, true, true, false, false, true, true, true, true, false, false, false, false] rfl rfl (one_of HT_.out (by kernel_rfl)) (by decide) (fun K hK => ?_)
                                      refine goes_ Try.func58 (by kernel_rfl) rfl #[.slice (some ad173) l0.length c0, .int .i64 ((rd_T38 l0 x6_1).f4), .int .i64 x6_1] (by rfl) rfl rfl (by (try simp only [List.map_toArray, List.map_cons, List.map_nil]); first | done | rfl | (simp only [List.length_drop, List.length_take]; rfl)) ?_
                                      with_reducible refine (tamisref23_Marked.calls kj15 _ _ l0 ((rd_T38 l0 x6_1).f4) x6_1 t187 _ ?side1 ?side2 A34.out).mono ?_
                                      (case side1 => repeat (first | exact (Kd.C_below HR0.out (by repeat (first | (with_reducible first | exact HB.out | apply below_alloc | apply pw_below_drewN | apply below_drew1 | refine below_set ?_ GE174.out) | exact HB.out))) | (with_reducible refine Kd.C_alloc ?_ _) | (with_reducible refine Kd.C_drewN ?_ _) | (with_reducible refine Kd.C_drew ?_)))
                                      (case side2 => exact HC0.out)
                                      rintro e w' ⟨rfl, ⟨nd, rfl⟩⟩
                                      refine ⟨_, rfl, ?_⟩
                                      refine hK.out _ _ ⟨(blk_cell BK174.out 0).trans rfl, (blk_cell BK174.out 1).trans rfl, (blk_cell BK174.out 2).trans rfl, (blk_cell BK174.out 3).trans rfl, (blk_cell BK174.out 4).trans rfl, hHeld.2.2.2.2.2.1, hHeld.2.2.2.2.2.2.1, hHeld.2.2.2.2.2.2.2.1, hHeld.2.2.2.2.2.2.2.2⟩ (fun hHeld => ?_)
                                      clear hK K
                                      refine norm_ (a' := ?_) ?_ ?_
                                      rotate_left
                                      · show Act.put _ (some 80) _ = _
                                        simp only [Act.put, List.setIfInBounds_toArray, List.set_cons_zero, List.set_cons_succ, i64_w, i32_w]
                                        rfl
                                      refine pure_ (i := 20) (N := some 81) (v := ?_) (a' := ?_) #[true, true, true, true, true, true, true, true, true, true, true, true, true, true, true, true, true, true, true, true, true, false, true, true, true, true, false, false, false, false] rfl rfl (any_of HT_.out (by kernel_rfl)) (fun _ _ _ h => h) (Or.inl ⟨by rfl, ?_⟩) ?_ ?_
                                      rotate_left
                                      · intro w'
                                        go_simp
                                        with_reducible rfl
                                      rotate_left
                                      · simp only [Act.put, List.setIfInBounds_toArray, List.set_cons_zero, List.set_cons_succ, i64_w, i32_w]
                                        rfl
                                      refine pure_ (i := 28) (N := some 8) (v := ?_) (a' := ?_) #[true, true, true, true, true, true, true, true, true, true, true, true, true, true, true, true, true, true, true, true, true, false, true, true, true, true, false, false, true, false] rfl rfl (any_of HT_.out (by kernel_rfl)) (fun _ _ _ h => h) (Or.inl ⟨by rfl, ?_⟩) ?_ ?_
                                      rotate_left
                                      · intro w'
                                        go_simp
                                        with_reducible rfl
                                      rotate_left
                                      · simp only [Act.put, List.setIfInBounds_toArray, List.set_cons_zero, List.set_cons_succ, i64_w, i32_w]
                                        rfl
                                      refine take_ (i := 21) (N := some 82) (v := ?_) (a' := ?_) #[true, true, true, true, true, true, true, true, true, true, true, true, true, true, true, true, true, true, true, true, true, true, true, true, true, true, false, false, true, false] rfl rfl (take_ofW HT_.out HW_.out (by kernel_rfl)) (fun _ _ _ h => h) (Or.inl ⟨by rfl, ?_⟩) hHeld ?_ ?_
                                      rotate_left
                                      · rintro w' ⟨s0, s1, s2, s3, s4, s5, s6, s7, s8⟩
                                        go_simp
                                        with_reducible rfl
                                      rotate_left
                                      · simp only [Act.put, List.setIfInBounds_toArray, List.set_cons_zero, List.set_cons_succ, i64_w, i32_w]
                                        rfl
                                      refine pure_ (i := 26) (N := some 87) (v := ?_) (a' := ?_) #[true, true, true, true, true, true, true, true, true, true, true, true, true, true, true, true, true, true, true, true, true, true, true, true, true, true, true, false, true, false] rfl rfl (any_of HT_.out (by kernel_rfl)) (fun _ _ _ h => h) (Or.inl ⟨by rfl, ?_⟩) ?_ ?_
                                      rotate_left
                                      · intro w'
                                        go_simp
                                        with_reducible rfl
                                      rotate_left
                                      · simp only [Act.put, List.setIfInBounds_toArray, List.set_cons_zero, List.set_cons_succ, i64_w, i32_w]
                                        rfl
                                      refine pure_ (i := 27) (N := some 88) (v := ?_) (a' := ?_) #[true, true, true, true, true, true, true, true, true, true, true, true, true, true, true, true, true, true, true, true, true, true, true, true, true, true, true, true, true, false] rfl rfl (any_of HT_.out (by kernel_rfl)) (fun _ _ _ h => h) (Or.inl ⟨by rfl, ?_⟩) ?_ ?_
                                      rotate_left
                                      · intro w'
                                        go_simp
                                        with_reducible rfl
                                      rotate_left
                                      · simp only [Act.put, List.setIfInBounds_toArray, List.set_cons_zero, List.set_cons_succ, i64_w, i32_w]
                                        rfl
                                      refine pure_ (i := 29) (N := some 9) (v := ?_) (a' := ?_) #[true, true, true, true, true, true, true, true, true, true, true, true, true, true, true, true, true, true, true, true, true, true, true, true, true, true, true, true, true, true] rfl rfl (any_of HT_.out (by kernel_rfl)) (fun _ _ _ h => h) (Or.inl ⟨by rfl, ?_⟩) ?_ ?_
                                      rotate_left
                                      · intro w'
                                        go_simp
                                        with_reducible rfl
                                      rotate_left
                                      · simp only [Act.put, List.setIfInBounds_toArray, List.set_cons_zero, List.set_cons_succ, i64_w, i32_w]
                                        rfl
                                      refine done_ (done_of HT_.out (by kernel_rfl)) ?_
                                      have p190 : 0 ≤ (x6_1 : Int) := of_decide_eq_true (by first | (with_reducible assumption) | assumption)
                                      have q190 : x6_1 < (t167.length : Int) := of_decide_eq_true (by first | (with_reducible assumption) | assumption)
                                      obtain ⟨ad190, e190, hx190_0⟩ := Kd.at_bool (Kd.R_reads' HO_3.out).2.2 x6_1 p190 q190
                                      (try rw [← Nbq38.out] at hx190_0)
                                      cases e190
                                      replace p190 := eq_true p190
                                      replace q190 := eq_true q190
                                      have hcz44_0 : w42.cell? ⟨gb174, 0, none⟩ = some (.int .i64 ((rd_T38 l0 x6_1).f0)) := (blk_cell BK174.out 0).trans rfl
                                      have hcz44_1 : w42.cell? ⟨gb174, 1, none⟩ = some (.int .u16 ((rd_T38 l0 x6_1).f1)) := (blk_cell BK174.out 1).trans rfl
                                      have hcz44_2 : w42.cell? ⟨gb174, 2, none⟩ = some (.int .u32 ((rd_T38 l0 x6_1).f2)) := (blk_cell BK174.out 2).trans rfl
                                      have hcz44_3 : w42.cell? ⟨gb174, 3, none⟩ = some (.int .i64 ((rd_T38 l0 x6_1).f3)) := (blk_cell BK174.out 3).trans rfl
                                      have hcz44_4 : w42.cell? ⟨gb174, 4, none⟩ = some (.int .i64 ((rd_T38 l0 x6_1).f4)) := (blk_cell BK174.out 4).trans rfl
                                      have hfz44_0 := blk_frozen BK174.out 0
                                      have hfz44_1 := blk_frozen BK174.out 1
                                      have hfz44_2 := blk_frozen BK174.out 2
                                      have hfz44_3 := blk_frozen BK174.out 3
                                      have hfz44_4 := blk_frozen BK174.out 4
                                      try go_wp2_with (first | ((with_reducible refine gate_dst (N := 120) rfl ?_); refine Kd.R_lit k56 _ 56 ?hg (N := 120) ?hd (xs := ([(⟨((rd_T38 l0 x6_1).f1), 0, 1, ((rd_T38 l0 x6_1).f2)⟩ : S56), (⟨5, 0, 0, (wrap64 ((wrap64 ((wrap64 ((rd t170 t184) - (rd t170 x6_1))) - 1)) - 1)) % 4294967296⟩ : S56), (⟨5, 0, 0, (wrap64 ((wrap64 ((wrap64 ((rd t170 t187) - (rd t170 x6_1))) - 1)) - 2)) % 4294967296⟩ : S56)] : List (S56))) (inner := [.int .u16 ((rd_T38 l0 x6_1).f1), .int .u8 0, .int .u8 1, .int .u32 ((rd_T38 l0 x6_1).f2), .int .u16 5, .int .u8 0, .int .u8 0, .int .u32 ((wrap64 ((wrap64 ((wrap64 ((rd t170 t184) - (rd t170 x6_1))) - 1)) - 1)) % 4294967296), .int .u16 5, .int .u8 0, .int .u8 0, .int .u32 ((wrap64 ((wrap64 ((wrap64 ((rd t170 t187) - (rd t170 x6_1))) - 1)) - 2)) % 4294967296)]) (ok := fun _ => True) (okp := fun _ => True) ?hr ?hp (fun _ hk => hk) trivial (Below.refl _ _) (Nat.le_refl _) (by simp) ?_; (case hd => rfl); (case hg => rfl); (case hr => first | (go_simp; done) | (go_simp; rfl)); (case hp => exact (Reps.c4 (show Kd.M k56 _ _ _ (⟨((rd_T38 l0 x6_1).f1), 0, 1, ((rd_T38 l0 x6_1).f2)⟩ : S56) [.int .u16 ((rd_T38 l0 x6_1).f1), .int .u8 0, .int .u8 1, .int .u32 ((rd_T38 l0 x6_1).f2)] from (k56_mkM _ _ _ (⟨((rd_T38 l0 x6_1).f1), 0, 1, ((rd_T38 l0 x6_1).f2)⟩ : S56) )) (Reps.c4 (show Kd.M k56 _ _ _ (⟨5, 0, 0, (wrap64 ((wrap64 ((wrap64 ((rd t170 t184) - (rd t170 x6_1))) - 1)) - 1)) % 4294967296⟩ : S56) [.int .u16 5, .int .u8 0, .int .u8 0, .int .u32 ((wrap64 ((wrap64 ((wrap64 ((rd t170 t184) - (rd t170 x6_1))) - 1)) - 1)) % 4294967296)] from (k56_mkM _ _ _ (⟨5, 0, 0, (wrap64 ((wrap64 ((wrap64 ((rd t170 t184) - (rd t170 x6_1))) - 1)) - 1)) % 4294967296⟩ : S56) )) (Reps.c4 (show Kd.M k56 _ _ _ (⟨5, 0, 0, (wrap64 ((wrap64 ((wrap64 ((rd t170 t187) - (rd t170 x6_1))) - 1)) - 2)) % 4294967296⟩ : S56) [.int .u16 5, .int .u8 0, .int .u8 0, .int .u32 ((wrap64 ((wrap64 ((wrap64 ((rd t170 t187) - (rd t170 x6_1))) - 1)) - 2)) % 4294967296)] from (k56_mkM _ _ _ (⟨5, 0, 0, (wrap64 ((wrap64 ((wrap64 ((rd t170 t187) - (rd t170 x6_1))) - 1)) - 2)) % 4294967296⟩ : S56) )) (Reps.none _ _))))); intro v192 w45 ho46 hb hg_ hnew_; clear hg_ hnew_; (first | rw [← Ny191.out] at ho46 | (simp only [Int.reduceToNat] at ho46; rw [← Ny191.out] at ho46)); have n0_ := Aside0.mk (Kd.R_below (by (with_reducible repeat (first | apply Kd.R_alloc | apply Kd.R_drewN | apply Kd.R_drew)); exact HO_3.out) hb); have n1_ := Aside0.mk (Kd.R_below (by (with_reducible repeat (first | apply Kd.R_alloc | apply Kd.R_drewN | apply Kd.R_drew)); exact HO_4.out) hb); have n2_ := Aside0.mk (Kd.R_elder' (by (with_reducible repeat (first | apply Kd.R_alloc | apply Kd.R_drewN | apply Kd.R_drew)); exact HO_5.out) (Kd.R_base ho46) hb); have n3_ := Aside0.mk (Kd.R_lower (Kd.R_new' ho46 (Kd.R_lt (by (with_reducible repeat (first | apply Kd.R_alloc | apply Kd.R_drewN | apply Kd.R_drew)); exact HO_5.out))) (below_size (by repeat (first | (with_reducible first | exact HB.out | apply below_alloc | apply pw_below_drewN | apply below_drew1 | refine below_set ?_ GE174.out) | exact HB.out)))); have n4_ := Aside0.mk (blk_below (g := gb174) (o := .cells #[.int .i64 ((rd_T38 l0 x6_1).f0), .int .u16 ((rd_T38 l0 x6_1).f1), .int .u32 ((rd_T38 l0 x6_1).f2), .int .i64 ((rd_T38 l0 x6_1).f3), .int .i64 ((rd_T38 l0 x6_1).f4)] 38 (0, 0)) (by (with_reducible repeat (first | refine blk_drewN ?_ _ | refine blk_drew ?_ | refine blk_alloc ?_ _)); exact BK174.out) hb); have n5_ := Aside0.mk (below_step (by repeat (first | (with_reducible first | exact HB.out | apply below_alloc | apply pw_below_drewN | apply below_drew1 | refine below_set ?_ GE174.out) | exact HB.out)) hb); clear HO_3; clear HO_4; clear HO_5; clear BK174; clear HB; have HO_3 := n0_; have HO_4 := n1_; have HO_5 := n2_; have HO193 := n3_; have BK174 := n4_; have HB := n5_; clear n0_ n1_ n2_ n3_ n4_ n5_; clear hb ho46; obtain ⟨Ao48, co48, eo48⟩ := Kd.R_slice HO193.out; subst eo48) | ((with_reducible refine gate_builtin (b := .append) (xs := #[.tmp 106, .tmp 120]) rfl ?_); at_builtin; refine Kd.R_append_rows k56 (w0 := w) w.heap.size rfl (.tmp 106) (.tmp 120) 45 56 (.agg #[(.int .u16 0), (.int .u8 0), (.int .u8 0), (.int .u32 0)]) 8 rfl Try.underlying45 info56 rfl (by decide) (by omega) u5 x5_15 y191 _ _ _ (fun k_ => some k_ ≠ (.slice Ao48 y191.length co48 : Value).ownBlock) (fun _ => False) rfl rfl ?aO ?aR (fun _ _ h => h) (fun _ h => h.elim) ?aF ?aB ?aS ?aL ?_; (case aR => repeat (first | exact (Kd.R_reads' HO193.out).2.2 | (with_reducible refine Kd.C_alloc ?_ _) | (with_reducible refine Kd.C_drewN ?_ _) | (with_reducible refine Kd.C_drew ?_))); (case aB => exact (by repeat (first | (with_reducible first | exact HB.out | apply below_alloc | apply pw_below_drewN | apply below_drew1 | refine below_set ?_ GE174.out) | exact HB.out))); (case aF => exact (fun k_ hk => Kd.fresh' (Kd.R_lt (by (with_reducible repeat (first | apply Kd.R_alloc | apply Kd.R_drewN | apply Kd.R_drew)); exact HO193.out)) k_ hk)); (case aO => exact (by (with_reducible repeat (first | apply Kd.R_alloc | apply Kd.R_drewN | apply Kd.R_drew)); exact Kd.R_mono HO_5.out (fun _ hk => hk.2))); (case aS => exact (below_size (by repeat (first | (with_reducible first | exact HB.out | apply below_alloc | apply pw_below_drewN | apply below_drew1 | refine below_set ?_ GE174.out) | exact HB.out)))); (case aL => have := LMc40.out; omega); intro v195 w47 ho hb hg hat; rw [← Ny194.out] at ho; have n0_ := Aside0.mk (Kd.R_over' (by (with_reducible repeat (first | apply Kd.R_alloc | apply Kd.R_drewN | apply Kd.R_drew)); exact HO_3.out) (Kd.R_typed (by (with_reducible repeat (first | apply Kd.R_alloc | apply Kd.R_drewN | apply Kd.R_drew)); exact HO_5.out)) (by decide) hg); have n1_ := Aside0.mk (Kd.R_over' (by (with_reducible repeat (first | apply Kd.R_alloc | apply Kd.R_drewN | apply Kd.R_drew)); exact HO_4.out) (Kd.R_typed (by (with_reducible repeat (first | apply Kd.R_alloc | apply Kd.R_drewN | apply Kd.R_drew)); exact HO_5.out)) (by decide) hg); have n2_ := Aside0.mk (blk_grown (g := gb174) (o := .cells #[.int .i64 ((rd_T38 l0 x6_1).f0), .int .u16 ((rd_T38 l0 x6_1).f1), .int .u32 ((rd_T38 l0 x6_1).f2), .int .i64 ((rd_T38 l0 x6_1).f3), .int .i64 ((rd_T38 l0 x6_1).f4)] 38 (0, 0)) (by (with_reducible repeat (first | refine blk_drewN ?_ _ | refine blk_drew ?_ | refine blk_alloc ?_ _)); exact BK174.out) hg (Kd.R_ne HO_5.out BK174.out (by decide))); have n3_ := Aside0.mk (Kd.R_after (ok := (fun _ => True)) (by (with_reducible repeat (first | apply Kd.R_alloc | apply Kd.R_drewN | apply Kd.R_drew)); exact HO193.out) hg hat); have n4_ := Aside0.mk (hb); have n5_ := Aside0.mk (ho); clear HO_3; clear HO_4; clear BK174; clear HO193; clear HB; clear HO_5; have HO_3 := n0_; have HO_4 := n1_; have BK174 := n2_; have HO193 := n3_; have HB := n4_; have HO196 := n5_; clear n0_ n1_ n2_ n3_ n4_ n5_; clear ho hb hg hat))
                                      go_roundg kj15
                                      case measure => have := HK1.out; have := HJ8.out; have := HJ15.out; omega
                                      case rel => exact ⟨(y194), (wrap64 (x6_1 + 1)), (by first | rfl | (simp; done) | (simp [*]; done)), H', ⟨by have := HK1.out; have := HJ8.out; have := HJ15.out; omega⟩, ⟨by (with_reducible repeat (first | apply Kd.R_alloc | apply Kd.R_drewN | apply Kd.R_drew)); exact HO_3.out⟩, ⟨by (with_reducible repeat (first | apply Kd.R_alloc | apply Kd.R_drewN | apply Kd.R_drew)); exact HO_4.out⟩, ⟨by (with_reducible repeat (first | apply Kd.R_alloc | apply Kd.R_drewN | apply Kd.R_drew)); exact Kd.R_mono HO196.out (fun _ hk => trivial)⟩, ⟨by repeat (first | (with_reducible first | exact HB.out | apply below_alloc | apply pw_below_drewN | apply below_drew1 | refine below_set ?_ GE174.out) | exact HB.out)⟩⟩
                                    · rw [if_neg c40] at H
                                      exact absurd H (by simp)
                                  · replace c39 := Bool.eq_false_iff.mpr c39
                                    subst c39
                                    have H1 : (if x5_15.length < 17592186044416 then (tamisref23_Emit.l0 kj15 l0 t167 t170 (x5_15 ++ [(⟨((rd_T38 l0 x6_1).f1), (wrap64 ((wrap64 ((rd t170 t184) - (rd t170 x6_1))) - 1)) % 256, (wrap64 ((wrap64 ((rd t170 t187) - (rd t170 x6_1))) - 1)) % 256, ((rd_T38 l0 x6_1).f2)⟩ : S56)]) (wrap64 (x6_1 + 1))) else (none)) = some r := by rw [if_neg (show ¬ (false = true) by decide)] at H; exact H
                                    clear H
                                    have H := H1
                                    clear H1
                                    by_cases c49 : x5_15.length < 17592186044416
                                    · rw [if_pos c49] at H
                                      have LMc49 := Aside0.mk c49
                                      clear c49
                                      obtain ⟨y197, hy197⟩ : ∃ y_ : List (S56), y_ = (x5_15 ++ [(⟨((rd_T38 l0 x6_1).f1), (wrap64 ((wrap64 ((rd t170 t184) - (rd t170 x6_1))) - 1)) % 256, (wrap64 ((wrap64 ((rd t170 t187) - (rd t170 x6_1))) - 1)) % 256, ((rd_T38 l0 x6_1).f2)⟩ : S56)]) := ⟨_, rfl⟩
                                      replace H : (tamisref23_Emit.l0 kj15 l0 t167 t170 y197 (wrap64 (x6_1 + 1))) = some r := by first | (rw [hy197]; with_reducible exact H) | (have H2_ := (Option.bind_some _ _).symm.trans H; rw [hy197]; with_reducible exact H2_) | (have H2_ := (Option.bind_some _ _).symm.trans H; with_reducible exact H2_) | with_reducible exact H | (rw [hy197]; exact H) | exact H
                                      have Ny197 := Aside0.mk hy197
                                      clear hy197
                                      have H' := Aside0.mk H
                                      clear H
                                      have hcz50_0 : wc.cell? ⟨gb174, 0, none⟩ = some (.int .i64 ((rd_T38 l0 x6_1).f0)) := (blk_cell BK174.out 0).trans rfl
                                      have hcz50_1 : wc.cell? ⟨gb174, 1, none⟩ = some (.int .u16 ((rd_T38 l0 x6_1).f1)) := (blk_cell BK174.out 1).trans rfl
                                      have hcz50_2 : wc.cell? ⟨gb174, 2, none⟩ = some (.int .u32 ((rd_T38 l0 x6_1).f2)) := (blk_cell BK174.out 2).trans rfl
                                      have hcz50_3 : wc.cell? ⟨gb174, 3, none⟩ = some (.int .i64 ((rd_T38 l0 x6_1).f3)) := (blk_cell BK174.out 3).trans rfl
                                      have hcz50_4 : wc.cell? ⟨gb174, 4, none⟩ = some (.int .i64 ((rd_T38 l0 x6_1).f4)) := (blk_cell BK174.out 4).trans rfl
                                      have hfz50_0 := blk_frozen BK174.out 0
                                      have hfz50_1 := blk_frozen BK174.out 1
                                      have hfz50_2 := blk_frozen BK174.out 2
                                      have hfz50_3 := blk_frozen BK174.out 3
                                      have hfz50_4 := blk_frozen BK174.out 4
                                      try go_wp2
                                      have n0_ := Aside0.mk (Kd.R_drew HO_3.out)
                                      have n1_ := Aside0.mk (Kd.R_drew HO_4.out)
                                      have n2_ := Aside0.mk (Kd.R_drew HO_5.out)
                                      have n3_ := Aside0.mk (blk_drew BK174.out)
                                      have n4_ := Aside0.mk (below_drew1 HB.out)
                                      clear HO_3
                                      clear HO_4
                                      clear HO_5
                                      clear BK174
                                      clear HB
                                      have HO_3 := n0_
                                      have HO_4 := n1_
                                      have HO_5 := n2_
                                      have BK174 := n3_
                                      have HB := n4_
                                      clear n0_ n1_ n2_ n3_ n4_
                                      obtain ⟨Ao52, co52, eo52⟩ := Kd.R_slice HO_4.out
                                      (first | subst eo52 | (injection eo52 with f1_ f2_ f3_; have f4_ := f1_.symm; have f5_ := f3_.symm; clear f1_ f2_ f3_; subst f4_; subst f5_))
                                      have p186 : 0 ≤ (x6_1 : Int) := of_decide_eq_true (by first | (with_reducible assumption) | assumption)
                                      have q186 : x6_1 < (t170.length : Int) := of_decide_eq_true (by first | (with_reducible assumption) | assumption)
                                      obtain ⟨ad186, e186, hx186_0⟩ := Kd.at_int (Kd.R_reads' HO_4.out).2.2 x6_1 p186 q186
                                      cases e186
                                      replace p186 := eq_true p186
                                      replace q186 := eq_true q186
                                      have p189 : 0 ≤ (x6_1 : Int) := of_decide_eq_true (by first | (with_reducible assumption) | assumption)
                                      have q189 : x6_1 < (t170.length : Int) := of_decide_eq_true (by first | (with_reducible assumption) | assumption)
                                      obtain ⟨ad189, e189, hx189_0⟩ := Kd.at_int (Kd.R_reads' HO_4.out).2.2 x6_1 p189 q189
                                      obtain rfl : ad186 = ad189 := (by injection e189)
                                      replace p189 := eq_true p189
                                      replace q189 := eq_true q189
                                      have p185 : 0 ≤ (t184 : Int) := of_decide_eq_true (by first | (with_reducible assumption) | assumption)
                                      have q185 : t184 < (t170.length : Int) := of_decide_eq_true (by first | (with_reducible assumption) | assumption)
                                      obtain ⟨ad185, e185, hx185_0⟩ := Kd.at_int (Kd.R_reads' HO_4.out).2.2 t184 p185 q185
                                      obtain rfl : ad186 = ad185 := (by injection e185)
                                      replace p185 := eq_true p185
                                      replace q185 := eq_true q185
                                      have p188 : 0 ≤ (t187 : Int) := of_decide_eq_true (by first | (with_reducible assumption) | assumption)
                                      have q188 : t187 < (t170.length : Int) := of_decide_eq_true (by first | (with_reducible assumption) | assumption)
                                      obtain ⟨ad188, e188, hx188_0⟩ := Kd.at_int (Kd.R_reads' HO_4.out).2.2 t187 p188 q188
                                      obtain rfl : ad186 = ad188 := (by injection e188)
                                      replace p188 := eq_true p188
                                      replace q188 := eq_true q188
                                      refine start_ (n := 30) (S := fun w' => w'.cell? ⟨gb174, 0, none⟩ = some (.int .i64 ((rd_T38 l0 x6_1).f0)) ∧ w'.cell? ⟨gb174, 1, none⟩ = some (.int .u16 ((rd_T38 l0 x6_1).f1)) ∧ w'.cell? ⟨gb174, 2, none⟩ = some (.int .u32 ((rd_T38 l0 x6_1).f2)) ∧ w'.cell? ⟨gb174, 3, none⟩ = some (.int .i64 ((rd_T38 l0 x6_1).f3)) ∧ w'.cell? ⟨gb174, 4, none⟩ = some (.int .i64 ((rd_T38 l0 x6_1).f4)) ∧ w'.cell? (ad186.add (x6_1).toNat) = some (.int .i64 (rd t170 x6_1)) ∧ w'.cell? (ad186.add (x6_1).toNat) = some (.int .i64 (rd t170 x6_1)) ∧ w'.cell? (ad186.add (t184).toNat) = some (.int .i64 (rd t170 t184)) ∧ w'.cell? (ad186.add (t187).toNat) = some (.int .i64 (rd t170 t187))) (ds := []) #[false, false, false, false, false, false, false, false, false, false, false, false, false, false, false, false, false, false, false, false, false, false, false, false, false, false, false, false, false, false] (by kernel_rfl) rfl rfl ⟨(blk_cell BK174.out 0).trans rfl, (blk_cell BK174.out 1).trans rfl, (blk_cell BK174.out 2).trans rfl, (blk_cell BK174.out 3).trans rfl, (blk_cell BK174.out 4).trans rfl, hx186_0, hx189_0, hx185_0, hx188_0⟩ (fun hHeld => ?_); refine with_tabW tamisref23_Emit.tab13 tamisref23_Emit.bits13 (fun HT_ HW_ => ?_)
                                      generalize wc.drew = w51 at HO_3 HO_4 HO_5 BK174 HB hx185_0 hx186_0 hx188_0 hx189_0 hHeld ⊢
                                      refine pure_ (i := 0) (N := some 61) (v := ?_) (a' := ?_) #[true, false, false, false, false, false, false, false, false, false, false, false, false, false, false, false, false, false, false, false, false, false, false, false, false, false, false, false, false, false] rfl rfl (any_of HT_.out (by kernel_rfl)) (fun _ _ _ h => h) (Or.inl ⟨by rfl, ?_⟩) ?_ ?_
                                      rotate_left
                                      · intro w'
                                        go_simp
                                        with_reducible rfl
                                      rotate_left
                                      · simp only [Act.put, List.setIfInBounds_toArray, List.set_cons_zero, List.set_cons_succ, i64_w, i32_w]
                                        rfl
                                      refine pure_ (i := 1) (N := some 62) (v := ?_) (a' := ?_) #[true, true, false, false, false, false, false, false, false, false, false, false, false, false, false, false, false, false, false, false, false, false, false, false, false, false, false, false, false, false] rfl rfl (any_of HT_.out (by kernel_rfl)) (fun _ _ _ h => h) (Or.inl ⟨by rfl, ?_⟩) ?_ ?_
                                      rotate_left
                                      · intro w'
                                        go_simp
                                        with_reducible rfl
                                      rotate_left
                                      · simp only [Act.put, List.setIfInBounds_toArray, List.set_cons_zero, List.set_cons_succ, i64_w, i32_w]
                                        rfl
                                      refine pure_ (i := 2) (N := some 63) (v := ?_) (a' := ?_) #[true, true, true, false, false, false, false, false, false, false, false, false, false, false, false, false, false, false, false, false, false, false, false, false, false, false, false, false, false, false] rfl rfl (any_of HT_.out (by kernel_rfl)) (fun _ _ _ h => h) (Or.inl ⟨by rfl, ?_⟩) ?_ ?_
                                      rotate_left
                                      · intro w'
                                        go_simp
                                        with_reducible rfl
                                      rotate_left
                                      · simp only [Act.put, List.setIfInBounds_toArray, List.set_cons_zero, List.set_cons_succ, i64_w, i32_w]
                                        rfl
                                      refine pure_ (i := 4) (N := some 65) (v := ?_) (a' := ?_) #[true, true, true, false, true, false, false, false, false, false, false, false, false, false, false, false, false, false, false, false, false, false, false, false, false, false, false, false, false, false] rfl rfl (any_of HT_.out (by kernel_rfl)) (fun _ _ _ h => h) (Or.inl ⟨by rfl, ?_⟩) ?_ ?_
                                      rotate_left
                                      · intro w'
                                        go_simp
                                        with_reducible rfl
                                      rotate_left
                                      · simp only [Act.put, List.setIfInBounds_toArray, List.set_cons_zero, List.set_cons_succ, i64_w, i32_w]
                                        rfl
                                      refine pure_ (i := 8) (N := some 69) (v := ?_) (a' := ?_) #[true, true, true, false, true, false, false, false, true, false, false, false, false, false, false, false, false, false, false, false, false, false, false, false, false, false, false, false, false, false] rfl rfl (any_of HT_.out (by kernel_rfl)) (fun _ _ _ h => h) (Or.inl ⟨by rfl, ?_⟩) ?_ ?_
                                      rotate_left
                                      · intro w'
                                        go_simp
                                        with_reducible rfl
                                      rotate_left
                                      · simp only [Act.put, List.setIfInBounds_toArray, List.set_cons_zero, List.set_cons_succ, i64_w, i32_w]
                                        rfl
                                      refine pure_ (i := 9) (N := some 70) (v := ?_) (a' := ?_) #[true, true, true, false, true, false, false, false, true, true, false, false, false, false, false, false, false, false, false, false, false, false, false, false, false, false, false, false, false, false] rfl rfl (any_of HT_.out (by kernel_rfl)) (fun _ _ _ h => h) (Or.inl ⟨by rfl, ?_⟩) ?_ ?_
                                      rotate_left
                                      · intro w'
                                        go_simp
                                        with_reducible rfl
                                      rotate_left
                                      · simp only [Act.put, List.setIfInBounds_toArray, List.set_cons_zero, List.set_cons_succ, i64_w, i32_w]
                                        rfl
                                      refine pure_ (i := 10) (N := some 71) (v := ?_) (a' := ?_) #[true, true, true, false, true, false, false, false, true, true, true, false, false, false, false, false, false, false, false, false, false, false, false, false, false, false, false, false, false, false] rfl rfl (any_of HT_.out (by kernel_rfl)) (fun _ _ _ h => h) (Or.inl ⟨by rfl, ?_⟩) ?_ ?_
                                      rotate_left
                                      · intro w'
                                        go_simp
                                        with_reducible rfl
                                      rotate_left
                                      · simp only [Act.put, List.setIfInBounds_toArray, List.set_cons_zero, List.set_cons_succ, i64_w, i32_w]
                                        rfl
                                      refine pure_ (i := 14) (N := some 75) (v := ?_) (a' := ?_) #[true, true, true, false, true, false, false, false, true, true, true, false, false, false, true, false, false, false, false, false, false, false, false, false, false, false, false, false, false, false] rfl rfl (any_of HT_.out (by kernel_rfl)) (fun _ _ _ h => h) (Or.inl ⟨by rfl, ?_⟩) ?_ ?_
                                      rotate_left
                                      · intro w'
                                        go_simp
                                        with_reducible rfl
                                      rotate_left
                                      · simp only [Act.put, List.setIfInBounds_toArray, List.set_cons_zero, List.set_cons_succ, i64_w, i32_w]
                                        rfl
                                      refine pure_ (i := 15) (N := some 76) (v := ?_) (a' := ?_) #[true, true, true, false, true, false, false, false, true, true, true, false, false, false, true, true, false, false, false, false, false, false, false, false, false, false, false, false, false, false] rfl rfl (any_of HT_.out (by kernel_rfl)) (fun _ _ _ h => h) (Or.inl ⟨by rfl, ?_⟩) ?_ ?_
                                      rotate_left
                                      · intro w'
                                        go_simp
                                        with_reducible rfl
                                      rotate_left
                                      · simp only [Act.put, List.setIfInBounds_toArray, List.set_cons_zero, List.set_cons_succ, i64_w, i32_w]
                                        rfl
                                      refine pure_ (i := 16) (N := some 77) (v := ?_) (a' := ?_) #[true, true, true, false, true, false, false, false, true, true, true, false, false, false, true, true, true, false, false, false, false, false, false, false, false, false, false, false, false, false] rfl rfl (any_of HT_.out (by kernel_rfl)) (fun _ _ _ h => h) (Or.inl ⟨by rfl, ?_⟩) ?_ ?_
                                      rotate_left
                                      · intro w'
                                        go_simp
                                        with_reducible rfl
                                      rotate_left
                                      · simp only [Act.put, List.setIfInBounds_toArray, List.set_cons_zero, List.set_cons_succ, i64_w, i32_w]
                                        rfl
                                      refine pure_ (i := 18) (N := some 79) (v := ?_) (a' := ?_) #[true, true, true, false, true, false, false, false, true, true, true, false, false, false, true, true, true, false, true, false, false, false, false, false, false, false, false, false, false, false] rfl rfl (any_of HT_.out (by kernel_rfl)) (fun _ _ _ h => h) (Or.inl ⟨by rfl, ?_⟩) ?_ ?_
                                      rotate_left
                                      · intro w'
                                        go_simp
                                        with_reducible rfl
                                      rotate_left
                                      · simp only [Act.put, List.setIfInBounds_toArray, List.set_cons_zero, List.set_cons_succ, i64_w, i32_w]
                                        rfl
                                      refine pure_ (i := 22) (N := some 83) (v := ?_) (a' := ?_) #[true, true, true, false, true, false, false, false, true, true, true, false, false, false, true, true, true, false, true, false, false, false, true, false, false, false, false, false, false, false] rfl rfl (any_of HT_.out (by kernel_rfl)) (fun _ _ _ h => h) (Or.inl ⟨by rfl, ?_⟩) ?_ ?_
                                      rotate_left
                                      · intro w'
                                        go_simp
                                        with_reducible rfl
                                      rotate_left
                                      · simp only [Act.put, List.setIfInBounds_toArray, List.set_cons_zero, List.set_cons_succ, i64_w, i32_w]
                                        rfl
                                      refine pure_ (i := 23) (N := some 84) (v := ?_) (a' := ?_) #[true, true, true, false, true, false, false, false, true, true, true, false, false, false, true, true, true, false, true, false, false, false, true, true, false, false, false, false, false, false] rfl rfl (any_of HT_.out (by kernel_rfl)) (fun _ _ _ h => h) (Or.inl ⟨by rfl, ?_⟩) ?_ ?_
                                      rotate_left
                                      · intro w'
                                        go_simp
                                        with_reducible rfl
                                      rotate_left
                                      · simp only [Act.put, List.setIfInBounds_toArray, List.set_cons_zero, List.set_cons_succ, i64_w, i32_w]
                                        rfl
                                      refine pure_ (i := 24) (N := some 85) (v := ?_) (a' := ?_) #[true, true, true, false, true, false, false, false, true, true, true, false, false, false, true, true, true, false, true, false, false, false, true, true, true, false, false, false, false, false] rfl rfl (any_of HT_.out (by kernel_rfl)) (fun _ _ _ h => h) (Or.inl ⟨by rfl, ?_⟩) ?_ ?_
                                      rotate_left
                                      · intro w'
                                        go_simp
                                        with_reducible rfl
                                      rotate_left
                                      · simp only [Act.put, List.setIfInBounds_toArray, List.set_cons_zero, List.set_cons_succ, i64_w, i32_w]
                                        rfl
                                      refine take_ (i := 3) (N := some 64) (v := ?_) (a' := ?_) #[true, true, true, true, true, false, false, false, true, true, true, false, false, false, true, true, true, false, true, false, false, false, true, true, true, false, false, false, false, false] rfl rfl (take_ofW HT_.out HW_.out (by kernel_rfl)) (fun _ _ _ h => h) (Or.inl ⟨by rfl, ?_⟩) hHeld ?_ ?_
                                      rotate_left
                                      · rintro w' ⟨s0, s1, s2, s3, s4, s5, s6, s7, s8⟩
                                        go_simp
                                        with_reducible rfl
                                      rotate_left
                                      · simp only [Act.put, List.setIfInBounds_toArray, List.set_cons_zero, List.set_cons_succ, i64_w, i32_w]
                                        rfl
                                      refine take_ (i := 11) (N := some 72) (v := ?_) (a' := ?_) #[true, true, true, true, true, false, false, false, true, true, true, true, false, false, true, true, true, false, true, false, false, false, true, true, true, false, false, false, false, false] rfl rfl (take_ofW HT_.out HW_.out (by kernel_rfl)) (fun _ _ _ h => h) (Or.inl ⟨by rfl, ?_⟩) hHeld ?_ ?_
                                      rotate_left
                                      · rintro w' ⟨s0, s1, s2, s3, s4, s5, s6, s7, s8⟩
                                        go_simp
                                        with_reducible rfl
                                      rotate_left
                                      · simp only [Act.put, List.setIfInBounds_toArray, List.set_cons_zero, List.set_cons_succ, i64_w, i32_w]
                                        rfl
                                      refine take_ (i := 17) (N := some 78) (v := ?_) (a' := ?_) #[true, true, true, true, true, false, false, false, true, true, true, true, false, false, true, true, true, true, true, false, false, false, true, true, true, false, false, false, false, false] rfl rfl (take_ofW HT_.out HW_.out (by kernel_rfl)) (fun _ _ _ h => h) (Or.inl ⟨by rfl, ?_⟩) hHeld ?_ ?_
                                      rotate_left
                                      · rintro w' ⟨s0, s1, s2, s3, s4, s5, s6, s7, s8⟩
                                        go_simp
                                        with_reducible rfl
                                      rotate_left
                                      · simp only [Act.put, List.setIfInBounds_toArray, List.set_cons_zero, List.set_cons_succ, i64_w, i32_w]
                                        rfl
                                      refine take_ (i := 25) (N := some 86) (v := ?_) (a' := ?_) #[true, true, true, true, true, false, false, false, true, true, true, true, false, false, true, true, true, true, true, false, false, false, true, true, true, true, false, false, false, false] rfl rfl (take_ofW HT_.out HW_.out (by kernel_rfl)) (fun _ _ _ h => h) (Or.inl ⟨by rfl, ?_⟩) hHeld ?_ ?_
                                      rotate_left
                                      · rintro w' ⟨s0, s1, s2, s3, s4, s5, s6, s7, s8⟩
                                        go_simp
                                        with_reducible rfl
                                      rotate_left
                                      · simp only [Act.put, List.setIfInBounds_toArray, List.set_cons_zero, List.set_cons_succ, i64_w, i32_w]
                                        rfl
                                      refine one_ (i := 5) (N := some 66) #[true, true, true, true, true, true, false, false, true, true, true, true, false, false, true, true, true, true, true, false, false, false, true, true, true, true, false, false, false, false] rfl rfl (one_of HT_.out (by kernel_rfl)) (by decide) (fun K hK => ?_)
                                      refine goes_ Try.func58 (by kernel_rfl) rfl #[.slice (some ad173) l0.length c0, .int .i64 ((rd_T38 l0 x6_1).f3), .int .i64 x6_1] (by rfl) rfl rfl (by (try simp only [List.map_toArray, List.map_cons, List.map_nil]); first | done | rfl | (simp only [List.length_drop, List.length_take]; rfl)) ?_
                                      with_reducible refine (tamisref23_Marked.calls kj15 _ _ l0 ((rd_T38 l0 x6_1).f3) x6_1 t184 _ ?side1 ?side2 A29.out).mono ?_
                                      (case side1 => repeat (first | exact (Kd.C_below HR0.out HB.out) | (with_reducible refine Kd.C_alloc ?_ _) | (with_reducible refine Kd.C_drewN ?_ _) | (with_reducible refine Kd.C_drew ?_)))
                                      (case side2 => exact HC0.out)
                                      rintro e w' ⟨rfl, ⟨nd, rfl⟩⟩
                                      refine ⟨_, rfl, ?_⟩
                                      refine hK.out _ _ ⟨(blk_cell BK174.out 0).trans rfl, (blk_cell BK174.out 1).trans rfl, (blk_cell BK174.out 2).trans rfl, (blk_cell BK174.out 3).trans rfl, (blk_cell BK174.out 4).trans rfl, hHeld.2.2.2.2.2.1, hHeld.2.2.2.2.2.2.1, hHeld.2.2.2.2.2.2.2.1, hHeld.2.2.2.2.2.2.2.2⟩ (fun hHeld => ?_)
                                      clear hK K
                                      refine norm_ (a' := ?_) ?_ ?_
                                      rotate_left
                                      · show Act.put _ (some 66) _ = _
                                        simp only [Act.put, List.setIfInBounds_toArray, List.set_cons_zero, List.set_cons_succ, i64_w, i32_w]
                                        rfl
                                      refine pure_ (i := 6) (N := some 67) (v := ?_) (a' := ?_) #[true, true, true, true, true, true, true, false, true, true, true, true, false, false, true, true, true, true, true, false, false, false, true, true, true, true, false, false, false, false] rfl rfl (any_of HT_.out (by kernel_rfl)) (fun _ _ _ h => h) (Or.inl ⟨by rfl, ?_⟩) ?_ ?_
                                      rotate_left
                                      · intro w'
                                        go_simp
                                        with_reducible rfl
                                      rotate_left
                                      · simp only [Act.put, List.setIfInBounds_toArray, List.set_cons_zero, List.set_cons_succ, i64_w, i32_w]
                                        rfl
                                      refine take_ (i := 7) (N := some 68) (v := ?_) (a' := ?_) #[true, true, true, true, true, true, true, true, true, true, true, true, false, false, true, true, true, true, true, false, false, false, true, true, true, true, false, false, false, false] rfl rfl (take_ofW HT_.out HW_.out (by kernel_rfl)) (fun _ _ _ h => h) (Or.inl ⟨by rfl, ?_⟩) hHeld ?_ ?_
                                      rotate_left
                                      · rintro w' ⟨s0, s1, s2, s3, s4, s5, s6, s7, s8⟩
                                        go_simp
                                        with_reducible rfl
                                      rotate_left
                                      · simp only [Act.put, List.setIfInBounds_toArray, List.set_cons_zero, List.set_cons_succ, i64_w, i32_w]
                                        rfl
                                      refine pure_ (i := 12) (N := some 73) (v := ?_) (a' := ?_) #[true, true, true, true, true, true, true, true, true, true, true, true, true, false, true, true, true, true, true, false, false, false, true, true, true, true, false, false, false, false] rfl rfl (any_of HT_.out (by kernel_rfl)) (fun _ _ _ h => h) (Or.inl ⟨by rfl, ?_⟩) ?_ ?_
                                      rotate_left
                                      · intro w'
                                        go_simp
                                        with_reducible rfl
                                      rotate_left
                                      · simp only [Act.put, List.setIfInBounds_toArray, List.set_cons_zero, List.set_cons_succ, i64_w, i32_w]
                                        rfl
                                      refine pure_ (i := 13) (N := some 74) (v := ?_) (a' := ?_) #[true, true, true, true, true, true, true, true, true, true, true, true, true, true, true, true, true, true, true, false, false, false, true, true, true, true, false, false, false, false] rfl rfl (any_of HT_.out (by kernel_rfl)) (fun _ _ _ h => h) (Or.inl ⟨by rfl, ?_⟩) ?_ ?_
                                      rotate_left
                                      · intro w'
                                        go_simp
                                        with_reducible rfl
                                      rotate_left
                                      · simp only [Act.put, List.setIfInBounds_toArray, List.set_cons_zero, List.set_cons_succ, i64_w, i32_w]
                                        rfl
                                      refine one_ (i := 19) (N := some 80) #[true, true, true, true, true, true, true, true, true, true, true, true, true, true, true, true, true, true, true, true, false, false, true, true, true, true, false, false, false, false] rfl rfl (one_of HT_.out (by kernel_rfl)) (by decide) (fun K hK => ?_)
                                      refine goes_ Try.func58 (by kernel_rfl) rfl #[.slice (some ad173) l0.length c0, .int .i64 ((rd_T38 l0 x6_1).f4), .int .i64 x6_1] (by rfl) rfl rfl (by (try simp only [List.map_toArray, List.map_cons, List.map_nil]); first | done | rfl | (simp only [List.length_drop, List.length_take]; rfl)) ?_
                                      with_reducible refine (tamisref23_Marked.calls kj15 _ _ l0 ((rd_T38 l0 x6_1).f4) x6_1 t187 _ ?side1 ?side2 A34.out).mono ?_
                                      (case side1 => repeat (first | exact (Kd.C_below HR0.out (by repeat (first | (with_reducible first | exact HB.out | apply below_alloc | apply pw_below_drewN | apply below_drew1 | refine below_set ?_ GE174.out) | exact HB.out))) | (with_reducible refine Kd.C_alloc ?_ _) | (with_reducible refine Kd.C_drewN ?_ _) | (with_reducible refine Kd.C_drew ?_)))
                                      (case side2 => exact HC0.out)
                                      rintro e w' ⟨rfl, ⟨nd, rfl⟩⟩
                                      refine ⟨_, rfl, ?_⟩
                                      refine hK.out _ _ ⟨(blk_cell BK174.out 0).trans rfl, (blk_cell BK174.out 1).trans rfl, (blk_cell BK174.out 2).trans rfl, (blk_cell BK174.out 3).trans rfl, (blk_cell BK174.out 4).trans rfl, hHeld.2.2.2.2.2.1, hHeld.2.2.2.2.2.2.1, hHeld.2.2.2.2.2.2.2.1, hHeld.2.2.2.2.2.2.2.2⟩ (fun hHeld => ?_)
                                      clear hK K
                                      refine norm_ (a' := ?_) ?_ ?_
                                      rotate_left
                                      · show Act.put _ (some 80) _ = _
                                        simp only [Act.put, List.setIfInBounds_toArray, List.set_cons_zero, List.set_cons_succ, i64_w, i32_w]
                                        rfl
                                      refine pure_ (i := 20) (N := some 81) (v := ?_) (a' := ?_) #[true, true, true, true, true, true, true, true, true, true, true, true, true, true, true, true, true, true, true, true, true, false, true, true, true, true, false, false, false, false] rfl rfl (any_of HT_.out (by kernel_rfl)) (fun _ _ _ h => h) (Or.inl ⟨by rfl, ?_⟩) ?_ ?_
                                      rotate_left
                                      · intro w'
                                        go_simp
                                        with_reducible rfl
                                      rotate_left
                                      · simp only [Act.put, List.setIfInBounds_toArray, List.set_cons_zero, List.set_cons_succ, i64_w, i32_w]
                                        rfl
                                      refine pure_ (i := 28) (N := some 8) (v := ?_) (a' := ?_) #[true, true, true, true, true, true, true, true, true, true, true, true, true, true, true, true, true, true, true, true, true, false, true, true, true, true, false, false, true, false] rfl rfl (any_of HT_.out (by kernel_rfl)) (fun _ _ _ h => h) (Or.inl ⟨by rfl, ?_⟩) ?_ ?_
                                      rotate_left
                                      · intro w'
                                        go_simp
                                        with_reducible rfl
                                      rotate_left
                                      · simp only [Act.put, List.setIfInBounds_toArray, List.set_cons_zero, List.set_cons_succ, i64_w, i32_w]
                                        rfl
                                      refine take_ (i := 21) (N := some 82) (v := ?_) (a' := ?_) #[true, true, true, true, true, true, true, true, true, true, true, true, true, true, true, true, true, true, true, true, true, true, true, true, true, true, false, false, true, false] rfl rfl (take_ofW HT_.out HW_.out (by kernel_rfl)) (fun _ _ _ h => h) (Or.inl ⟨by rfl, ?_⟩) hHeld ?_ ?_
                                      rotate_left
                                      · rintro w' ⟨s0, s1, s2, s3, s4, s5, s6, s7, s8⟩
                                        go_simp
                                        with_reducible rfl
                                      rotate_left
                                      · simp only [Act.put, List.setIfInBounds_toArray, List.set_cons_zero, List.set_cons_succ, i64_w, i32_w]
                                        rfl
                                      refine pure_ (i := 26) (N := some 87) (v := ?_) (a' := ?_) #[true, true, true, true, true, true, true, true, true, true, true, true, true, true, true, true, true, true, true, true, true, true, true, true, true, true, true, false, true, false] rfl rfl (any_of HT_.out (by kernel_rfl)) (fun _ _ _ h => h) (Or.inl ⟨by rfl, ?_⟩) ?_ ?_
                                      rotate_left
                                      · intro w'
                                        go_simp
                                        with_reducible rfl
                                      rotate_left
                                      · simp only [Act.put, List.setIfInBounds_toArray, List.set_cons_zero, List.set_cons_succ, i64_w, i32_w]
                                        rfl
                                      refine pure_ (i := 27) (N := some 88) (v := ?_) (a' := ?_) #[true, true, true, true, true, true, true, true, true, true, true, true, true, true, true, true, true, true, true, true, true, true, true, true, true, true, true, true, true, false] rfl rfl (any_of HT_.out (by kernel_rfl)) (fun _ _ _ h => h) (Or.inl ⟨by rfl, ?_⟩) ?_ ?_
                                      rotate_left
                                      · intro w'
                                        go_simp
                                        with_reducible rfl
                                      rotate_left
                                      · simp only [Act.put, List.setIfInBounds_toArray, List.set_cons_zero, List.set_cons_succ, i64_w, i32_w]
                                        rfl
                                      refine pure_ (i := 29) (N := some 9) (v := ?_) (a' := ?_) #[true, true, true, true, true, true, true, true, true, true, true, true, true, true, true, true, true, true, true, true, true, true, true, true, true, true, true, true, true, true] rfl rfl (any_of HT_.out (by kernel_rfl)) (fun _ _ _ h => h) (Or.inl ⟨by rfl, ?_⟩) ?_ ?_
                                      rotate_left
                                      · intro w'
                                        go_simp
                                        with_reducible rfl
                                      rotate_left
                                      · simp only [Act.put, List.setIfInBounds_toArray, List.set_cons_zero, List.set_cons_succ, i64_w, i32_w]
                                        rfl
                                      refine done_ (done_of HT_.out (by kernel_rfl)) ?_
                                      have p190 : 0 ≤ (x6_1 : Int) := of_decide_eq_true (by first | (with_reducible assumption) | assumption)
                                      have q190 : x6_1 < (t167.length : Int) := of_decide_eq_true (by first | (with_reducible assumption) | assumption)
                                      obtain ⟨ad190, e190, hx190_0⟩ := Kd.at_bool (Kd.R_reads' HO_3.out).2.2 x6_1 p190 q190
                                      (try rw [← Nbq38.out] at hx190_0)
                                      cases e190
                                      replace p190 := eq_true p190
                                      replace q190 := eq_true q190
                                      have hcz53_0 : w51.cell? ⟨gb174, 0, none⟩ = some (.int .i64 ((rd_T38 l0 x6_1).f0)) := (blk_cell BK174.out 0).trans rfl
                                      have hcz53_1 : w51.cell? ⟨gb174, 1, none⟩ = some (.int .u16 ((rd_T38 l0 x6_1).f1)) := (blk_cell BK174.out 1).trans rfl
                                      have hcz53_2 : w51.cell? ⟨gb174, 2, none⟩ = some (.int .u32 ((rd_T38 l0 x6_1).f2)) := (blk_cell BK174.out 2).trans rfl
                                      have hcz53_3 : w51.cell? ⟨gb174, 3, none⟩ = some (.int .i64 ((rd_T38 l0 x6_1).f3)) := (blk_cell BK174.out 3).trans rfl
                                      have hcz53_4 : w51.cell? ⟨gb174, 4, none⟩ = some (.int .i64 ((rd_T38 l0 x6_1).f4)) := (blk_cell BK174.out 4).trans rfl
                                      have hfz53_0 := blk_frozen BK174.out 0
                                      have hfz53_1 := blk_frozen BK174.out 1
                                      have hfz53_2 := blk_frozen BK174.out 2
                                      have hfz53_3 := blk_frozen BK174.out 3
                                      have hfz53_4 := blk_frozen BK174.out 4
                                      try go_wp2_with (first | ((with_reducible refine gate_builtin (b := .append) (xs := #[.tmp 94, .tmp 104]) rfl ?_); at_builtin; refine Kd.R_append k56 (w0 := w) w.heap.size rfl (.tmp 94) (.tmp 104) 45 56 (.agg #[(.int .u16 0), (.int .u8 0), (.int .u8 0), (.int .u32 0)]) 8 rfl Try.underlying45 info56 rfl (by decide) (by omega) u5 x5_15 (⟨((rd_T38 l0 x6_1).f1), (wrap64 ((wrap64 ((rd t170 t184) - (rd t170 x6_1))) - 1)) % 256, (wrap64 ((wrap64 ((rd t170 t187) - (rd t170 x6_1))) - 1)) % 256, ((rd_T38 l0 x6_1).f2)⟩ : S56) [.int .u16 ((rd_T38 l0 x6_1).f1), .int .u8 ((wrap64 ((wrap64 ((rd t170 t184) - (rd t170 x6_1))) - 1)) % 256), .int .u8 ((wrap64 ((wrap64 ((rd t170 t187) - (rd t170 x6_1))) - 1)) % 256), .int .u32 ((rd_T38 l0 x6_1).f2)] (fun _ => True) (fun _ => False) rfl rfl ?aP (fun _ hk => hk.elim) ?aF ?aO ?aB ?aS ?aL ?_; (case aP => exact k56_mkM _ _ _ (⟨((rd_T38 l0 x6_1).f1), (wrap64 ((wrap64 ((rd t170 t184) - (rd t170 x6_1))) - 1)) % 256, (wrap64 ((wrap64 ((rd t170 t187) - (rd t170 x6_1))) - 1)) % 256, ((rd_T38 l0 x6_1).f2)⟩ : S56)); (case aB => exact (by repeat (first | (with_reducible first | exact HB.out | apply below_alloc | apply pw_below_drewN | apply below_drew1 | refine below_set ?_ GE174.out) | exact HB.out))); (case aF => exact (fun _ _ => trivial)); (case aO => exact (by (with_reducible repeat (first | apply Kd.R_alloc | apply Kd.R_drewN | apply Kd.R_drew)); exact HO_5.out)); (case aS => exact (below_size (by repeat (first | (with_reducible first | exact HB.out | apply below_alloc | apply pw_below_drewN | apply below_drew1 | refine below_set ?_ GE174.out) | exact HB.out)))); (case aL => have := LMc49.out; omega); intro v198 w54 ho hb hg hat; rw [← Ny197.out] at ho; have n0_ := Aside0.mk (Kd.R_over' (by (with_reducible repeat (first | apply Kd.R_alloc | apply Kd.R_drewN | apply Kd.R_drew)); exact HO_3.out) (Kd.R_typed (by (with_reducible repeat (first | apply Kd.R_alloc | apply Kd.R_drewN | apply Kd.R_drew)); exact HO_5.out)) (by decide) hg); have n1_ := Aside0.mk (Kd.R_over' (by (with_reducible repeat (first | apply Kd.R_alloc | apply Kd.R_drewN | apply Kd.R_drew)); exact HO_4.out) (Kd.R_typed (by (with_reducible repeat (first | apply Kd.R_alloc | apply Kd.R_drewN | apply Kd.R_drew)); exact HO_5.out)) (by decide) hg); have n2_ := Aside0.mk (blk_grown (g := gb174) (o := .cells #[.int .i64 ((rd_T38 l0 x6_1).f0), .int .u16 ((rd_T38 l0 x6_1).f1), .int .u32 ((rd_T38 l0 x6_1).f2), .int .i64 ((rd_T38 l0 x6_1).f3), .int .i64 ((rd_T38 l0 x6_1).f4)] 38 (0, 0)) (by (with_reducible repeat (first | refine blk_drewN ?_ _ | refine blk_drew ?_ | refine blk_alloc ?_ _)); exact BK174.out) hg (Kd.R_ne HO_5.out BK174.out (by decide))); have n3_ := Aside0.mk (hb); have n4_ := Aside0.mk (ho); clear HO_3; clear HO_4; clear BK174; clear HB; clear HO_5; have HO_3 := n0_; have HO_4 := n1_; have BK174 := n2_; have HB := n3_; have HO199 := n4_; clear n0_ n1_ n2_ n3_ n4_; clear ho hb hg hat))
                                      go_roundg kj15
                                      case measure => have := HK1.out; have := HJ8.out; have := HJ15.out; omega
                                      case rel => exact ⟨(y197), (wrap64 (x6_1 + 1)), (by first | rfl | (simp; done) | (simp [*]; done)), H', ⟨by have := HK1.out; have := HJ8.out; have := HJ15.out; omega⟩, ⟨by (with_reducible repeat (first | apply Kd.R_alloc | apply Kd.R_drewN | apply Kd.R_drew)); exact HO_3.out⟩, ⟨by (with_reducible repeat (first | apply Kd.R_alloc | apply Kd.R_drewN | apply Kd.R_drew)); exact HO_4.out⟩, ⟨by (with_reducible repeat (first | apply Kd.R_alloc | apply Kd.R_drewN | apply Kd.R_drew)); exact HO199.out⟩, ⟨by repeat (first | (with_reducible first | exact HB.out | apply below_alloc | apply pw_below_drewN | apply below_drew1 | refine below_set ?_ GE174.out) | exact HB.out)⟩⟩
                                    · rw [if_neg c49] at H
                                      exact absurd H (by simp)
                                · rw [if_neg c37] at H
                                  exact absurd H (by simp)
                              · rw [if_neg c36] at H
                                exact absurd H (by simp)
                            · rw [if_neg c35] at H
                              exact absurd H (by simp)
                          · rw [if_neg c33] at H
                            exact absurd H (by simp)
                        · rw [if_neg c32] at H
                          exact absurd H (by simp)
                      · rw [if_neg c31] at H
                        exact absurd H (by simp)
                    · rw [if_neg c30] at H
                      exact absurd H (by simp)
                  · rw [if_neg c28] at H
                    have c28b0 : (((rd_T38 l0 x6_1).f0) == 3) = false := beq_eq_false_iff_ne.mpr c28
                    have c28b1 : (((rd_T38 l0 x6_1).f0) != 3) = true := bne_iff_ne.mpr c28
                    have H' := Aside0.mk H
                    clear H
                    have hcz55_0 : wc.cell? ⟨gb174, 0, none⟩ = some (.int .i64 ((rd_T38 l0 x6_1).f0)) := (blk_cell BK174.out 0).trans rfl
                    have hcz55_1 : wc.cell? ⟨gb174, 1, none⟩ = some (.int .u16 ((rd_T38 l0 x6_1).f1)) := (blk_cell BK174.out 1).trans rfl
                    have hcz55_2 : wc.cell? ⟨gb174, 2, none⟩ = some (.int .u32 ((rd_T38 l0 x6_1).f2)) := (blk_cell BK174.out 2).trans rfl
                    have hcz55_3 : wc.cell? ⟨gb174, 3, none⟩ = some (.int .i64 ((rd_T38 l0 x6_1).f3)) := (blk_cell BK174.out 3).trans rfl
                    have hcz55_4 : wc.cell? ⟨gb174, 4, none⟩ = some (.int .i64 ((rd_T38 l0 x6_1).f4)) := (blk_cell BK174.out 4).trans rfl
                    have hfz55_0 := blk_frozen BK174.out 0
                    have hfz55_1 := blk_frozen BK174.out 1
                    have hfz55_2 := blk_frozen BK174.out 2
                    have hfz55_3 := blk_frozen BK174.out 3
                    have hfz55_4 := blk_frozen BK174.out 4
                    go_wp2
                    go_roundg kj15
                    case measure => have := HK1.out; have := HJ8.out; have := HJ15.out; omega
                    case rel => exact ⟨(x5_15), (wrap64 (x6_1 + 1)), (by first | rfl | (simp; done) | (simp [*]; done)), H', ⟨by have := HK1.out; have := HJ8.out; have := HJ15.out; omega⟩, ⟨by (with_reducible repeat (first | apply Kd.R_alloc | apply Kd.R_drewN | apply Kd.R_drew)); exact HO_3.out⟩, ⟨by (with_reducible repeat (first | apply Kd.R_alloc | apply Kd.R_drewN | apply Kd.R_drew)); exact HO_4.out⟩, ⟨by (with_reducible repeat (first | apply Kd.R_alloc | apply Kd.R_drewN | apply Kd.R_drew)); exact HO_5.out⟩, ⟨by repeat (first | (with_reducible first | exact HB.out | apply below_alloc | apply pw_below_drewN | apply below_drew1 | refine below_set ?_ GE174.out) | exact HB.out)⟩⟩
        · rw [if_neg c8] at H
          exact absurd H (by simp)
      · rw [if_neg c7] at H
        have c7b0 : decide (x6_1 < (l0.length : Int)) = false := decide_eq_false c7
        clear c7
        obtain rfl := Option.some.inj H
        go_wp2
        go_ret
        exact ⟨_, by first | rfl | (simp [errW_none, errW_some] <;> rfl) | (simp [*, errW_none, errW_some] <;> rfl), by (with_reducible repeat (first | apply Kd.R_alloc | apply Kd.R_drewN | apply Kd.R_drew)); exact HO_5.out, by repeat (first | (with_reducible first | exact HB.out | apply below_alloc | apply pw_below_drewN | apply below_drew1) | exact HB.out)⟩

end Go.Proofs.Ytmjpibeiglicdaa.E
