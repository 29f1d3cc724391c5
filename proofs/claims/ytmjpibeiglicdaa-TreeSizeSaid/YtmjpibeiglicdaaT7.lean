/- Functions of the program as plain Lean functions, and their contracts; written by a program out of the translation. -/
import Derived.Test.YtmjpibeiglicdaaT0
import Derived.Test.YtmjpibeiglicdaaT6
namespace Go.Proofs.Ytmjpibeiglicdaa.T
open Go.RowKit Go.Proofs.YtmjpibeiglicdaaV.PrintWords Go.Proofs.YtmjpibeiglicdaaV.PrintLast Go.Proofs.YtmjpibeiglicdaaV.PrintMore
attribute [local go_sem] max2_int min2_int max_two min_two max_three min_three max_four min_four   -- for this text's walks alone
set_option linter.unusedVariables false
set_option linter.unusedSimpArgs false

/-! ### tamisref04_Kind: function 45 -/
def tamisref04_Kind.f (k : Nat) (a0 : Int) : Option (Int) := (tamisref04_Name.f k a0).bind fun t299 => (if t299.toList = ([] : List UInt8) then (some 0) else (if a0 = 32 then (some 1) else (if a0 = 128 then (some 2) else (if a0 = 0 then (some 3) else (if a0 = 96 then (some 4) else (if a0 = 1 then (some 5) else (if a0 = 97 then (some 6) else (if a0 = 129 then (some 7) else (if a0 = 2 then (some 8) else (if a0 = 3 then (some 9) else (if a0 = 5 then (some 11) else (if a0 = 6 then (some 13) else (if a0 = 22 then (some 14) else (if a0 = 7 then (some 15) else (if a0 = 135 then (some 16) else (if (Int.tmod a0 8) = 4 then (some 10) else (some 12)))))))))))))))))
theorem tamisref04_Kind.mono : ∀ a0 k, LeO (tamisref04_Kind.f k a0) (tamisref04_Kind.f (k + 1) a0) := by
  intro a0 k
  unfold tamisref04_Kind.f
  repeat' first
      | (with_reducible exact tamisref04_Name.mono _ _)
      | (with_reducible exact LeO.refl _)
      | (with_reducible exact LeO.none _)
      | (with_reducible refine LeO.ite ?_ ?_)
      | (with_reducible refine LeO.bind ?_ (fun _ => ?_))
      | exact tamisref04_Name.mono _ _
      | exact LeO.none _
      | refine LeO.ite ?_ ?_
      | refine LeO.bind ?_ (fun _ => ?_)
set_option maxHeartbeats 8000000 in
set_option maxRecDepth 100000 in
theorem tamisref04_Kind.calls (k : Nat) (a0 : Int) (r : Int) (w : World) (h : tamisref04_Kind.f k a0 = some r) :
    Calls Try.prog 45 #[.int .u16 a0] w fun e w' => e = .returned (.int .i64 r) ∧ Below w.heap.size w w' := by
  have HB := Aside0.mk (Below.refl w.heap.size w)
  have H : ((tamisref04_Name.f k a0).bind fun t299 => (if t299.toList = ([] : List UInt8) then (some 0) else (if a0 = 32 then (some 1) else (if a0 = 128 then (some 2) else (if a0 = 0 then (some 3) else (if a0 = 96 then (some 4) else (if a0 = 1 then (some 5) else (if a0 = 97 then (some 6) else (if a0 = 129 then (some 7) else (if a0 = 2 then (some 8) else (if a0 = 3 then (some 9) else (if a0 = 5 then (some 11) else (if a0 = 6 then (some 13) else (if a0 = 22 then (some 14) else (if a0 = 7 then (some 15) else (if a0 = 135 then (some 16) else (if (Int.tmod a0 8) = 4 then (some 10) else (some 12)))))))))))))))))) = some r := h
  clear h
  replace H := Option.bind_eq_some_iff.mp H
  obtain ⟨t299, A20, H⟩ := H
  replace H : (if t299.toList = ([] : List UInt8) then (some 0) else (if a0 = 32 then (some 1) else (if a0 = 128 then (some 2) else (if a0 = 0 then (some 3) else (if a0 = 96 then (some 4) else (if a0 = 1 then (some 5) else (if a0 = 97 then (some 6) else (if a0 = 129 then (some 7) else (if a0 = 2 then (some 8) else (if a0 = 3 then (some 9) else (if a0 = 5 then (some 11) else (if a0 = 6 then (some 13) else (if a0 = 22 then (some 14) else (if a0 = 7 then (some 15) else (if a0 = 135 then (some 16) else (if (Int.tmod a0 8) = 4 then (some 10) else (some 12))))))))))))))))) = some r := H
  have A2 := Aside0.mk A20
  clear A20
  by_cases c3 : t299.toList = ([] : List UInt8)
  · rw [if_pos c3] at H
    have c3b0 : (t299.toList == ([] : List UInt8)) = true := beq_iff_eq.mpr c3
    have c3b1 : (t299.toList != ([] : List UInt8)) = false := bne_eq_false_iff_eq.mpr c3
    clear c3
    obtain rfl := Option.some.inj H
    go_enter Try.func45, Try.ntmps45
    go_wp2_with (first | ((with_reducible refine gate_callee (f := 84) rfl ?_); refine goesL_ (some 4) rfl rfl Try.func84 (by kernel_rfl) rfl #[.int .u16 a0] rfl (by (try simp only [List.map_toArray, List.map_cons, List.map_nil]); first | done | rfl | (simp only [List.length_drop, List.length_take]; rfl)) ?_; (with_reducible refine (tamisref04_Name.calls k a0 t299 _ A2.out).mono ?_); rintro e w4 ⟨rfl, hb⟩; refine ⟨_, rfl, ?_⟩; have n0_ := Aside0.mk (below_step (by repeat (first | (with_reducible first | exact HB.out | apply below_alloc | apply pw_below_drewN | apply below_drew1) | exact HB.out)) hb); clear HB; have HB := n0_; clear n0_; (try clear hb); (try clear hb2); (try clear hk); (try clear hi)))
    go_ret
    exact ⟨by first | rfl | (simp [errW_none, errW_some] <;> rfl) | (simp [*, errW_none, errW_some] <;> rfl), by repeat (first | (with_reducible first | exact HB.out | apply below_alloc | apply pw_below_drewN | apply below_drew1) | exact HB.out)⟩
  · rw [if_neg c3] at H
    have c3b0 : (t299.toList == ([] : List UInt8)) = false := beq_eq_false_iff_ne.mpr c3
    have c3b1 : (t299.toList != ([] : List UInt8)) = true := bne_iff_ne.mpr c3
    by_cases c5 : a0 = 32
    · rw [if_pos c5] at H
      have c5b0 : (a0 == 32) = true := beq_iff_eq.mpr c5
      have c5b1 : (a0 != 32) = false := bne_eq_false_iff_eq.mpr c5
      clear c5
      obtain rfl := Option.some.inj H
      go_enter Try.func45, Try.ntmps45
      go_wp2_with (first | ((with_reducible refine gate_callee (f := 84) rfl ?_); refine goesL_ (some 4) rfl rfl Try.func84 (by kernel_rfl) rfl #[.int .u16 a0] rfl (by (try simp only [List.map_toArray, List.map_cons, List.map_nil]); first | done | rfl | (simp only [List.length_drop, List.length_take]; rfl)) ?_; (with_reducible refine (tamisref04_Name.calls k a0 t299 _ A2.out).mono ?_); rintro e w6 ⟨rfl, hb⟩; refine ⟨_, rfl, ?_⟩; have n0_ := Aside0.mk (below_step (by repeat (first | (with_reducible first | exact HB.out | apply below_alloc | apply pw_below_drewN | apply below_drew1) | exact HB.out)) hb); clear HB; have HB := n0_; clear n0_; (try clear hb); (try clear hb2); (try clear hk); (try clear hi)))
      go_ret
      exact ⟨by first | rfl | (simp [errW_none, errW_some] <;> rfl) | (simp [*, errW_none, errW_some] <;> rfl), by repeat (first | (with_reducible first | exact HB.out | apply below_alloc | apply pw_below_drewN | apply below_drew1) | exact HB.out)⟩
    · rw [if_neg c5] at H
      have c5b0 : (a0 == 32) = false := beq_eq_false_iff_ne.mpr c5
      have c5b1 : (a0 != 32) = true := bne_iff_ne.mpr c5
      by_cases c7 : a0 = 128
      · rw [if_pos c7] at H
        have c7b0 : (a0 == 128) = true := beq_iff_eq.mpr c7
        have c7b1 : (a0 != 128) = false := bne_eq_false_iff_eq.mpr c7
        clear c7
        obtain rfl := Option.some.inj H
        go_enter Try.func45, Try.ntmps45
        go_wp2_with (first | ((with_reducible refine gate_callee (f := 84) rfl ?_); refine goesL_ (some 4) rfl rfl Try.func84 (by kernel_rfl) rfl #[.int .u16 a0] rfl (by (try simp only [List.map_toArray, List.map_cons, List.map_nil]); first | done | rfl | (simp only [List.length_drop, List.length_take]; rfl)) ?_; (with_reducible refine (tamisref04_Name.calls k a0 t299 _ A2.out).mono ?_); rintro e w8 ⟨rfl, hb⟩; refine ⟨_, rfl, ?_⟩; have n0_ := Aside0.mk (below_step (by repeat (first | (with_reducible first | exact HB.out | apply below_alloc | apply pw_below_drewN | apply below_drew1) | exact HB.out)) hb); clear HB; have HB := n0_; clear n0_; (try clear hb); (try clear hb2); (try clear hk); (try clear hi)))
        go_ret
        exact ⟨by first | rfl | (simp [errW_none, errW_some] <;> rfl) | (simp [*, errW_none, errW_some] <;> rfl), by repeat (first | (with_reducible first | exact HB.out | apply below_alloc | apply pw_below_drewN | apply below_drew1) | exact HB.out)⟩
      · rw [if_neg c7] at H
        have c7b0 : (a0 == 128) = false := beq_eq_false_iff_ne.mpr c7
        have c7b1 : (a0 != 128) = true := bne_iff_ne.mpr c7
        by_cases c9 : a0 = 0
        · rw [if_pos c9] at H
          have c9b0 : (a0 == 0) = true := beq_iff_eq.mpr c9
          have c9b1 : (a0 != 0) = false := bne_eq_false_iff_eq.mpr c9
          clear c9
          obtain rfl := Option.some.inj H
          go_enter Try.func45, Try.ntmps45
          go_wp2_with (first | ((with_reducible refine gate_callee (f := 84) rfl ?_); refine goesL_ (some 4) rfl rfl Try.func84 (by kernel_rfl) rfl #[.int .u16 a0] rfl (by (try simp only [List.map_toArray, List.map_cons, List.map_nil]); first | done | rfl | (simp only [List.length_drop, List.length_take]; rfl)) ?_; (with_reducible refine (tamisref04_Name.calls k a0 t299 _ A2.out).mono ?_); rintro e w10 ⟨rfl, hb⟩; refine ⟨_, rfl, ?_⟩; have n0_ := Aside0.mk (below_step (by repeat (first | (with_reducible first | exact HB.out | apply below_alloc | apply pw_below_drewN | apply below_drew1) | exact HB.out)) hb); clear HB; have HB := n0_; clear n0_; (try clear hb); (try clear hb2); (try clear hk); (try clear hi)))
          go_ret
          exact ⟨by first | rfl | (simp [errW_none, errW_some] <;> rfl) | (simp [*, errW_none, errW_some] <;> rfl), by repeat (first | (with_reducible first | exact HB.out | apply below_alloc | apply pw_below_drewN | apply below_drew1) | exact HB.out)⟩
        · rw [if_neg c9] at H
          have c9b0 : (a0 == 0) = false := beq_eq_false_iff_ne.mpr c9
          have c9b1 : (a0 != 0) = true := bne_iff_ne.mpr c9
          by_cases c11 : a0 = 96
          · rw [if_pos c11] at H
            have c11b0 : (a0 == 96) = true := beq_iff_eq.mpr c11
            have c11b1 : (a0 != 96) = false := bne_eq_false_iff_eq.mpr c11
            clear c11
            obtain rfl := Option.some.inj H
            go_enter Try.func45, Try.ntmps45
            go_wp2_with (first | ((with_reducible refine gate_callee (f := 84) rfl ?_); refine goesL_ (some 4) rfl rfl Try.func84 (by kernel_rfl) rfl #[.int .u16 a0] rfl (by (try simp only [List.map_toArray, List.map_cons, List.map_nil]); first | done | rfl | (simp only [List.length_drop, List.length_take]; rfl)) ?_; (with_reducible refine (tamisref04_Name.calls k a0 t299 _ A2.out).mono ?_); rintro e w12 ⟨rfl, hb⟩; refine ⟨_, rfl, ?_⟩; have n0_ := Aside0.mk (below_step (by repeat (first | (with_reducible first | exact HB.out | apply below_alloc | apply pw_below_drewN | apply below_drew1) | exact HB.out)) hb); clear HB; have HB := n0_; clear n0_; (try clear hb); (try clear hb2); (try clear hk); (try clear hi)))
            go_ret
            exact ⟨by first | rfl | (simp [errW_none, errW_some] <;> rfl) | (simp [*, errW_none, errW_some] <;> rfl), by repeat (first | (with_reducible first | exact HB.out | apply below_alloc | apply pw_below_drewN | apply below_drew1) | exact HB.out)⟩
          · rw [if_neg c11] at H
            have c11b0 : (a0 == 96) = false := beq_eq_false_iff_ne.mpr c11
            have c11b1 : (a0 != 96) = true := bne_iff_ne.mpr c11
            by_cases c13 : a0 = 1
            · rw [if_pos c13] at H
              have c13b0 : (a0 == 1) = true := beq_iff_eq.mpr c13
              have c13b1 : (a0 != 1) = false := bne_eq_false_iff_eq.mpr c13
              clear c13
              obtain rfl := Option.some.inj H
              go_enter Try.func45, Try.ntmps45
              go_wp2_with (first | ((with_reducible refine gate_callee (f := 84) rfl ?_); refine goesL_ (some 4) rfl rfl Try.func84 (by kernel_rfl) rfl #[.int .u16 a0] rfl (by (try simp only [List.map_toArray, List.map_cons, List.map_nil]); first | done | rfl | (simp only [List.length_drop, List.length_take]; rfl)) ?_; (with_reducible refine (tamisref04_Name.calls k a0 t299 _ A2.out).mono ?_); rintro e w14 ⟨rfl, hb⟩; refine ⟨_, rfl, ?_⟩; have n0_ := Aside0.mk (below_step (by repeat (first | (with_reducible first | exact HB.out | apply below_alloc | apply pw_below_drewN | apply below_drew1) | exact HB.out)) hb); clear HB; have HB := n0_; clear n0_; (try clear hb); (try clear hb2); (try clear hk); (try clear hi)))
              go_ret
              exact ⟨by first | rfl | (simp [errW_none, errW_some] <;> rfl) | (simp [*, errW_none, errW_some] <;> rfl), by repeat (first | (with_reducible first | exact HB.out | apply below_alloc | apply pw_below_drewN | apply below_drew1) | exact HB.out)⟩
            · rw [if_neg c13] at H
              have c13b0 : (a0 == 1) = false := beq_eq_false_iff_ne.mpr c13
              have c13b1 : (a0 != 1) = true := bne_iff_ne.mpr c13
              by_cases c15 : a0 = 97
              · rw [if_pos c15] at H
                have c15b0 : (a0 == 97) = true := beq_iff_eq.mpr c15
                have c15b1 : (a0 != 97) = false := bne_eq_false_iff_eq.mpr c15
                clear c15
                obtain rfl := Option.some.inj H
                go_enter Try.func45, Try.ntmps45
                go_wp2_with (first | ((with_reducible refine gate_callee (f := 84) rfl ?_); refine goesL_ (some 4) rfl rfl Try.func84 (by kernel_rfl) rfl #[.int .u16 a0] rfl (by (try simp only [List.map_toArray, List.map_cons, List.map_nil]); first | done | rfl | (simp only [List.length_drop, List.length_take]; rfl)) ?_; (with_reducible refine (tamisref04_Name.calls k a0 t299 _ A2.out).mono ?_); rintro e w16 ⟨rfl, hb⟩; refine ⟨_, rfl, ?_⟩; have n0_ := Aside0.mk (below_step (by repeat (first | (with_reducible first | exact HB.out | apply below_alloc | apply pw_below_drewN | apply below_drew1) | exact HB.out)) hb); clear HB; have HB := n0_; clear n0_; (try clear hb); (try clear hb2); (try clear hk); (try clear hi)))
                go_ret
                exact ⟨by first | rfl | (simp [errW_none, errW_some] <;> rfl) | (simp [*, errW_none, errW_some] <;> rfl), by repeat (first | (with_reducible first | exact HB.out | apply below_alloc | apply pw_below_drewN | apply below_drew1) | exact HB.out)⟩
              · rw [if_neg c15] at H
                have c15b0 : (a0 == 97) = false := beq_eq_false_iff_ne.mpr c15
                have c15b1 : (a0 != 97) = true := bne_iff_ne.mpr c15
                by_cases c17 : a0 = 129
                · rw [if_pos c17] at H
                  have c17b0 : (a0 == 129) = true := beq_iff_eq.mpr c17
                  have c17b1 : (a0 != 129) = false := bne_eq_false_iff_eq.mpr c17
                  clear c17
                  obtain rfl := Option.some.inj H
                  go_enter Try.func45, Try.ntmps45
                  go_wp2_with (first | ((with_reducible refine gate_callee (f := 84) rfl ?_); refine goesL_ (some 4) rfl rfl Try.func84 (by kernel_rfl) rfl #[.int .u16 a0] rfl (by (try simp only [List.map_toArray, List.map_cons, List.map_nil]); first | done | rfl | (simp only [List.length_drop, List.length_take]; rfl)) ?_; (with_reducible refine (tamisref04_Name.calls k a0 t299 _ A2.out).mono ?_); rintro e w18 ⟨rfl, hb⟩; refine ⟨_, rfl, ?_⟩; have n0_ := Aside0.mk (below_step (by repeat (first | (with_reducible first | exact HB.out | apply below_alloc | apply pw_below_drewN | apply below_drew1) | exact HB.out)) hb); clear HB; have HB := n0_; clear n0_; (try clear hb); (try clear hb2); (try clear hk); (try clear hi)))
                  go_ret
                  exact ⟨by first | rfl | (simp [errW_none, errW_some] <;> rfl) | (simp [*, errW_none, errW_some] <;> rfl), by repeat (first | (with_reducible first | exact HB.out | apply below_alloc | apply pw_below_drewN | apply below_drew1) | exact HB.out)⟩
                · rw [if_neg c17] at H
                  have c17b0 : (a0 == 129) = false := beq_eq_false_iff_ne.mpr c17
                  have c17b1 : (a0 != 129) = true := bne_iff_ne.mpr c17
                  by_cases c19 : a0 = 2
                  · rw [if_pos c19] at H
                    have c19b0 : (a0 == 2) = true := beq_iff_eq.mpr c19
                    have c19b1 : (a0 != 2) = false := bne_eq_false_iff_eq.mpr c19
                    clear c19
                    obtain rfl := Option.some.inj H
                    go_enter Try.func45, Try.ntmps45
                    go_wp2_with (first | ((with_reducible refine gate_callee (f := 84) rfl ?_); refine goesL_ (some 4) rfl rfl Try.func84 (by kernel_rfl) rfl #[.int .u16 a0] rfl (by (try simp only [List.map_toArray, List.map_cons, List.map_nil]); first | done | rfl | (simp only [List.length_drop, List.length_take]; rfl)) ?_; (with_reducible refine (tamisref04_Name.calls k a0 t299 _ A2.out).mono ?_); rintro e w20 ⟨rfl, hb⟩; refine ⟨_, rfl, ?_⟩; have n0_ := Aside0.mk (below_step (by repeat (first | (with_reducible first | exact HB.out | apply below_alloc | apply pw_below_drewN | apply below_drew1) | exact HB.out)) hb); clear HB; have HB := n0_; clear n0_; (try clear hb); (try clear hb2); (try clear hk); (try clear hi)))
                    go_ret
                    exact ⟨by first | rfl | (simp [errW_none, errW_some] <;> rfl) | (simp [*, errW_none, errW_some] <;> rfl), by repeat (first | (with_reducible first | exact HB.out | apply below_alloc | apply pw_below_drewN | apply below_drew1) | exact HB.out)⟩
                  · rw [if_neg c19] at H
                    have c19b0 : (a0 == 2) = false := beq_eq_false_iff_ne.mpr c19
                    have c19b1 : (a0 != 2) = true := bne_iff_ne.mpr c19
                    by_cases c21 : a0 = 3
                    · rw [if_pos c21] at H
                      have c21b0 : (a0 == 3) = true := beq_iff_eq.mpr c21
                      have c21b1 : (a0 != 3) = false := bne_eq_false_iff_eq.mpr c21
                      clear c21
                      obtain rfl := Option.some.inj H
                      go_enter Try.func45, Try.ntmps45
                      go_wp2_with (first | ((with_reducible refine gate_callee (f := 84) rfl ?_); refine goesL_ (some 4) rfl rfl Try.func84 (by kernel_rfl) rfl #[.int .u16 a0] rfl (by (try simp only [List.map_toArray, List.map_cons, List.map_nil]); first | done | rfl | (simp only [List.length_drop, List.length_take]; rfl)) ?_; (with_reducible refine (tamisref04_Name.calls k a0 t299 _ A2.out).mono ?_); rintro e w22 ⟨rfl, hb⟩; refine ⟨_, rfl, ?_⟩; have n0_ := Aside0.mk (below_step (by repeat (first | (with_reducible first | exact HB.out | apply below_alloc | apply pw_below_drewN | apply below_drew1) | exact HB.out)) hb); clear HB; have HB := n0_; clear n0_; (try clear hb); (try clear hb2); (try clear hk); (try clear hi)))
                      go_ret
                      exact ⟨by first | rfl | (simp [errW_none, errW_some] <;> rfl) | (simp [*, errW_none, errW_some] <;> rfl), by repeat (first | (with_reducible first | exact HB.out | apply below_alloc | apply pw_below_drewN | apply below_drew1) | exact HB.out)⟩
                    · rw [if_neg c21] at H
                      have c21b0 : (a0 == 3) = false := beq_eq_false_iff_ne.mpr c21
                      have c21b1 : (a0 != 3) = true := bne_iff_ne.mpr c21
                      by_cases c23 : a0 = 5
                      · rw [if_pos c23] at H
                        have c23b0 : (a0 == 5) = true := beq_iff_eq.mpr c23
                        have c23b1 : (a0 != 5) = false := bne_eq_false_iff_eq.mpr c23
                        clear c23
                        obtain rfl := Option.some.inj H
                        go_enter Try.func45, Try.ntmps45
                        go_wp2_with (first | ((with_reducible refine gate_callee (f := 84) rfl ?_); refine goesL_ (some 4) rfl rfl Try.func84 (by kernel_rfl) rfl #[.int .u16 a0] rfl (by (try simp only [List.map_toArray, List.map_cons, List.map_nil]); first | done | rfl | (simp only [List.length_drop, List.length_take]; rfl)) ?_; (with_reducible refine (tamisref04_Name.calls k a0 t299 _ A2.out).mono ?_); rintro e w24 ⟨rfl, hb⟩; refine ⟨_, rfl, ?_⟩; have n0_ := Aside0.mk (below_step (by repeat (first | (with_reducible first | exact HB.out | apply below_alloc | apply pw_below_drewN | apply below_drew1) | exact HB.out)) hb); clear HB; have HB := n0_; clear n0_; (try clear hb); (try clear hb2); (try clear hk); (try clear hi)))
                        go_ret
                        exact ⟨by first | rfl | (simp [errW_none, errW_some] <;> rfl) | (simp [*, errW_none, errW_some] <;> rfl), by repeat (first | (with_reducible first | exact HB.out | apply below_alloc | apply pw_below_drewN | apply below_drew1) | exact HB.out)⟩
                      · rw [if_neg c23] at H
                        have c23b0 : (a0 == 5) = false := beq_eq_false_iff_ne.mpr c23
                        have c23b1 : (a0 != 5) = true := bne_iff_ne.mpr c23
                        by_cases c25 : a0 = 6
                        · rw [if_pos c25] at H
                          have c25b0 : (a0 == 6) = true := beq_iff_eq.mpr c25
                          have c25b1 : (a0 != 6) = false := bne_eq_false_iff_eq.mpr c25
                          clear c25
                          obtain rfl := Option.some.inj H
                          go_enter Try.func45, Try.ntmps45
                          go_wp2_with (first | ((with_reducible refine gate_callee (f := 84) rfl ?_); refine goesL_ (some 4) rfl rfl Try.func84 (by kernel_rfl) rfl #[.int .u16 a0] rfl (by (try simp only [List.map_toArray, List.map_cons, List.map_nil]); first | done | rfl | (simp only [List.length_drop, List.length_take]; rfl)) ?_; (with_reducible refine (tamisref04_Name.calls k a0 t299 _ A2.out).mono ?_); rintro e w26 ⟨rfl, hb⟩; refine ⟨_, rfl, ?_⟩; have n0_ := Aside0.mk (below_step (by repeat (first | (with_reducible first | exact HB.out | apply below_alloc | apply pw_below_drewN | apply below_drew1) | exact HB.out)) hb); clear HB; have HB := n0_; clear n0_; (try clear hb); (try clear hb2); (try clear hk); (try clear hi)))
                          go_ret
                          exact ⟨by first | rfl | (simp [errW_none, errW_some] <;> rfl) | (simp [*, errW_none, errW_some] <;> rfl), by repeat (first | (with_reducible first | exact HB.out | apply below_alloc | apply pw_below_drewN | apply below_drew1) | exact HB.out)⟩
                        · rw [if_neg c25] at H
                          have c25b0 : (a0 == 6) = false := beq_eq_false_iff_ne.mpr c25
                          have c25b1 : (a0 != 6) = true := bne_iff_ne.mpr c25
                          by_cases c27 : a0 = 22
                          · rw [if_pos c27] at H
                            have c27b0 : (a0 == 22) = true := beq_iff_eq.mpr c27
                            have c27b1 : (a0 != 22) = false := bne_eq_false_iff_eq.mpr c27
                            clear c27
                            obtain rfl := Option.some.inj H
                            go_enter Try.func45, Try.ntmps45
                            go_wp2_with (first | ((with_reducible refine gate_callee (f := 84) rfl ?_); refine goesL_ (some 4) rfl rfl Try.func84 (by kernel_rfl) rfl #[.int .u16 a0] rfl (by (try simp only [List.map_toArray, List.map_cons, List.map_nil]); first | done | rfl | (simp only [List.length_drop, List.length_take]; rfl)) ?_; (with_reducible refine (tamisref04_Name.calls k a0 t299 _ A2.out).mono ?_); rintro e w28 ⟨rfl, hb⟩; refine ⟨_, rfl, ?_⟩; have n0_ := Aside0.mk (below_step (by repeat (first | (with_reducible first | exact HB.out | apply below_alloc | apply pw_below_drewN | apply below_drew1) | exact HB.out)) hb); clear HB; have HB := n0_; clear n0_; (try clear hb); (try clear hb2); (try clear hk); (try clear hi)))
                            go_ret
                            exact ⟨by first | rfl | (simp [errW_none, errW_some] <;> rfl) | (simp [*, errW_none, errW_some] <;> rfl), by repeat (first | (with_reducible first | exact HB.out | apply below_alloc | apply pw_below_drewN | apply below_drew1) | exact HB.out)⟩
                          · rw [if_neg c27] at H
                            have c27b0 : (a0 == 22) = false := beq_eq_false_iff_ne.mpr c27
                            have c27b1 : (a0 != 22) = true := bne_iff_ne.mpr c27
                            by_cases c29 : a0 = 7
                            · rw [if_pos c29] at H
                              have c29b0 : (a0 == 7) = true := beq_iff_eq.mpr c29
                              have c29b1 : (a0 != 7) = false := bne_eq_false_iff_eq.mpr c29
                              clear c29
                              obtain rfl := Option.some.inj H
                              go_enter Try.func45, Try.ntmps45
                              go_wp2_with (first | ((with_reducible refine gate_callee (f := 84) rfl ?_); refine goesL_ (some 4) rfl rfl Try.func84 (by kernel_rfl) rfl #[.int .u16 a0] rfl (by (try simp only [List.map_toArray, List.map_cons, List.map_nil]); first | done | rfl | (simp only [List.length_drop, List.length_take]; rfl)) ?_; (with_reducible refine (tamisref04_Name.calls k a0 t299 _ A2.out).mono ?_); rintro e w30 ⟨rfl, hb⟩; refine ⟨_, rfl, ?_⟩; have n0_ := Aside0.mk (below_step (by repeat (first | (with_reducible first | exact HB.out | apply below_alloc | apply pw_below_drewN | apply below_drew1) | exact HB.out)) hb); clear HB; have HB := n0_; clear n0_; (try clear hb); (try clear hb2); (try clear hk); (try clear hi)))
                              go_ret
                              exact ⟨by first | rfl | (simp [errW_none, errW_some] <;> rfl) | (simp [*, errW_none, errW_some] <;> rfl), by repeat (first | (with_reducible first | exact HB.out | apply below_alloc | apply pw_below_drewN | apply below_drew1) | exact HB.out)⟩
                            · rw [if_neg c29] at H
                              have c29b0 : (a0 == 7) = false := beq_eq_false_iff_ne.mpr c29
                              have c29b1 : (a0 != 7) = true := bne_iff_ne.mpr c29
                              by_cases c31 : a0 = 135
                              · rw [if_pos c31] at H
                                have c31b0 : (a0 == 135) = true := beq_iff_eq.mpr c31
                                have c31b1 : (a0 != 135) = false := bne_eq_false_iff_eq.mpr c31
                                clear c31
                                obtain rfl := Option.some.inj H
                                go_enter Try.func45, Try.ntmps45
                                go_wp2_with (first | ((with_reducible refine gate_callee (f := 84) rfl ?_); refine goesL_ (some 4) rfl rfl Try.func84 (by kernel_rfl) rfl #[.int .u16 a0] rfl (by (try simp only [List.map_toArray, List.map_cons, List.map_nil]); first | done | rfl | (simp only [List.length_drop, List.length_take]; rfl)) ?_; (with_reducible refine (tamisref04_Name.calls k a0 t299 _ A2.out).mono ?_); rintro e w32 ⟨rfl, hb⟩; refine ⟨_, rfl, ?_⟩; have n0_ := Aside0.mk (below_step (by repeat (first | (with_reducible first | exact HB.out | apply below_alloc | apply pw_below_drewN | apply below_drew1) | exact HB.out)) hb); clear HB; have HB := n0_; clear n0_; (try clear hb); (try clear hb2); (try clear hk); (try clear hi)))
                                go_ret
                                exact ⟨by first | rfl | (simp [errW_none, errW_some] <;> rfl) | (simp [*, errW_none, errW_some] <;> rfl), by repeat (first | (with_reducible first | exact HB.out | apply below_alloc | apply pw_below_drewN | apply below_drew1) | exact HB.out)⟩
                              · rw [if_neg c31] at H
                                have c31b0 : (a0 == 135) = false := beq_eq_false_iff_ne.mpr c31
                                have c31b1 : (a0 != 135) = true := bne_iff_ne.mpr c31
                                by_cases c33 : (Int.tmod a0 8) = 4
                                · rw [if_pos c33] at H
                                  have c33b0 : ((Int.tmod a0 8) == 4) = true := beq_iff_eq.mpr c33
                                  have c33b1 : ((Int.tmod a0 8) != 4) = false := bne_eq_false_iff_eq.mpr c33
                                  clear c33
                                  obtain rfl := Option.some.inj H
                                  go_enter Try.func45, Try.ntmps45
                                  go_wp2_with (first | ((with_reducible refine gate_callee (f := 84) rfl ?_); refine goesL_ (some 4) rfl rfl Try.func84 (by kernel_rfl) rfl #[.int .u16 a0] rfl (by (try simp only [List.map_toArray, List.map_cons, List.map_nil]); first | done | rfl | (simp only [List.length_drop, List.length_take]; rfl)) ?_; (with_reducible refine (tamisref04_Name.calls k a0 t299 _ A2.out).mono ?_); rintro e w34 ⟨rfl, hb⟩; refine ⟨_, rfl, ?_⟩; have n0_ := Aside0.mk (below_step (by repeat (first | (with_reducible first | exact HB.out | apply below_alloc | apply pw_below_drewN | apply below_drew1) | exact HB.out)) hb); clear HB; have HB := n0_; clear n0_; (try clear hb); (try clear hb2); (try clear hk); (try clear hi)))
                                  go_ret
                                  exact ⟨by first | rfl | (simp [errW_none, errW_some] <;> rfl) | (simp [*, errW_none, errW_some] <;> rfl), by repeat (first | (with_reducible first | exact HB.out | apply below_alloc | apply pw_below_drewN | apply below_drew1) | exact HB.out)⟩
                                · rw [if_neg c33] at H
                                  have c33b0 : ((Int.tmod a0 8) == 4) = false := beq_eq_false_iff_ne.mpr c33
                                  have c33b1 : ((Int.tmod a0 8) != 4) = true := bne_iff_ne.mpr c33
                                  obtain rfl := Option.some.inj H
                                  go_enter Try.func45, Try.ntmps45
                                  go_wp2_with (first | ((with_reducible refine gate_callee (f := 84) rfl ?_); refine goesL_ (some 4) rfl rfl Try.func84 (by kernel_rfl) rfl #[.int .u16 a0] rfl (by (try simp only [List.map_toArray, List.map_cons, List.map_nil]); first | done | rfl | (simp only [List.length_drop, List.length_take]; rfl)) ?_; (with_reducible refine (tamisref04_Name.calls k a0 t299 _ A2.out).mono ?_); rintro e w35 ⟨rfl, hb⟩; refine ⟨_, rfl, ?_⟩; have n0_ := Aside0.mk (below_step (by repeat (first | (with_reducible first | exact HB.out | apply below_alloc | apply pw_below_drewN | apply below_drew1) | exact HB.out)) hb); clear HB; have HB := n0_; clear n0_; (try clear hb); (try clear hb2); (try clear hk); (try clear hi)))
                                  go_ret
                                  exact ⟨by first | rfl | (simp [errW_none, errW_some] <;> rfl) | (simp [*, errW_none, errW_some] <;> rfl), by repeat (first | (with_reducible first | exact HB.out | apply below_alloc | apply pw_below_drewN | apply below_drew1) | exact HB.out)⟩

/-! ### tamisref23_Marked: function 58 -/
def tamisref23_Marked.l0 : Nat → List (S38) → Int → Int → Option (Int)
  | 0, _, _, _ => none
  | k + 1, x0, x1, x7 => if x7 < (x0.length : Int) then (if 0 ≤ x7 then (if ((rd_T38 x0 x7).f0) = 4 then (if ((rd_T38 x0 x7).f3) = x1 then (some x7) else (tamisref23_Marked.l0 k x0 x1 (wrap64 (x7 + 1)))) else (tamisref23_Marked.l0 k x0 x1 (wrap64 (x7 + 1)))) else (none)) else (some (-1))
def tamisref23_Marked.f (k : Nat) (l0 : List (S38)) (a1 : Int) (a2 : Int) : Option (Int) := tamisref23_Marked.l0 k l0 a1 a2
theorem tamisref23_Marked.mono_l : ∀ k, (∀ y0 y1 y2, LeO (tamisref23_Marked.l0 k y0 y1 y2) (tamisref23_Marked.l0 (k + 1) y0 y1 y2))
  | 0 => fun _ _ _ r h => by simp [tamisref23_Marked.l0] at h
  | k + 1 => by
    have ih0 := tamisref23_Marked.mono_l k
    · intro y0 y1 y2
      unfold tamisref23_Marked.l0
      repeat' first
      | (with_reducible exact ih0 _ _ _)
      | (with_reducible exact LeO.refl _)
      | (with_reducible exact LeO.none _)
      | (with_reducible refine LeO.ite ?_ ?_)
      | (with_reducible refine LeO.bind ?_ (fun _ => ?_))
      | exact ih0 _ _ _
      | exact LeO.none _
      | refine LeO.ite ?_ ?_
      | refine LeO.bind ?_ (fun _ => ?_)
theorem tamisref23_Marked.mono : ∀ a0 a1 a2 k, LeO (tamisref23_Marked.f k a0 a1 a2) (tamisref23_Marked.f (k + 1) a0 a1 a2) := by
  intro a0 a1 a2 k
  have ih0 := tamisref23_Marked.mono_l k
  unfold tamisref23_Marked.f
  repeat' first
      | (with_reducible exact ih0 _ _ _)
      | (with_reducible exact LeO.refl _)
      | (with_reducible exact LeO.none _)
      | (with_reducible refine LeO.ite ?_ ?_)
      | (with_reducible refine LeO.bind ?_ (fun _ => ?_))
      | exact ih0 _ _ _
      | exact LeO.none _
      | refine LeO.ite ?_ ?_
      | refine LeO.bind ?_ (fun _ => ?_)
set_option maxHeartbeats 8000000 in
set_option maxRecDepth 100000 in
theorem tamisref23_Marked.calls (k : Nat) (A0 : Option Addr) (c0 : Nat) (l0 : List (S38)) (a1 : Int) (a2 : Int) (r : Int) (w : World) (hr0 : Kd.C k38 w A0 l0.length l0) (hc0 : l0.length ≤ c0) (h : tamisref23_Marked.f k l0 a1 a2 = some r) :
    Calls Try.prog 58 #[.slice A0 l0.length c0, .int .i64 a1, .int .i64 a2] w fun e w' => e = .returned (.int .i64 r) ∧ Drawn0 w w' := by
  have HR0 := Aside0.mk hr0
  have HC0 := Aside0.mk hc0
  clear hr0 hc0
  have H : (tamisref23_Marked.l0 k l0 a1 a2) = some r := h
  clear h
  have H' := Aside0.mk H
  clear H
  go_enter Try.func58, Try.ntmps58
  go_wp2
  go_loopg [7] k (fun kq v7 w' => ∃ (x7_1 : Int), v7 = .int .i64 x7_1 ∧ Aside0 (tamisref23_Marked.l0 kq l0 a1 x7_1 = some r) ∧ Aside0 (kq ≤ k) ∧ Drawn0 w w')
  case atStart => exact ⟨(a2), (by first | rfl | (simp; done) | (simp [*]; done)), H', ⟨Nat.le_refl _⟩, by repeat (first | exact Drawn0.refl _ | apply Drawn0.step)⟩
  case round =>
    clear H'
    try clear p2
    obtain ⟨x7_1, rfl, HA, HK1, ⟨m1, rfl⟩⟩ := hrel
    cases gk with
    | zero => exact absurd HA.out (by simp [tamisref23_Marked.l0])
    | succ k1 =>
      have H := HA.out
      clear HA
      simp only [tamisref23_Marked.l0] at H
      by_cases c4 : x7_1 < (l0.length : Int)
      · rw [if_pos c4] at H
        have c4b0 : decide (x7_1 < (l0.length : Int)) = true := decide_eq_true c4
        clear c4
        by_cases c5 : 0 ≤ x7_1
        · rw [if_pos c5] at H
          have c5b0 : decide (0 ≤ x7_1) = true := decide_eq_true c5
          clear c5
          by_cases c6 : ((rd_T38 l0 x7_1).f0) = 4
          · rw [if_pos c6] at H
            have c6b0 : (((rd_T38 l0 x7_1).f0) == 4) = true := beq_iff_eq.mpr c6
            have c6b1 : (((rd_T38 l0 x7_1).f0) != 4) = false := bne_eq_false_iff_eq.mpr c6
            clear c6
            by_cases c7 : ((rd_T38 l0 x7_1).f3) = a1
            · rw [if_pos c7] at H
              have c7b0 : (((rd_T38 l0 x7_1).f3) == a1) = true := beq_iff_eq.mpr c7
              have c7b1 : (((rd_T38 l0 x7_1).f3) != a1) = false := bne_eq_false_iff_eq.mpr c7
              clear c7
              obtain rfl := Option.some.inj H
              have p300 : 0 ≤ (x7_1 : Int) := of_decide_eq_true (by first | (with_reducible assumption) | assumption)
              have q300 : x7_1 < (l0.length : Int) := of_decide_eq_true (by first | (with_reducible assumption) | assumption)
              obtain ⟨ad300, e300, hx300_0, hx300_1, hx300_2, hx300_3, hx300_4⟩ := at_T38 HR0.out x7_1 p300 q300
              cases e300
              replace p300 := eq_true p300
              replace q300 := eq_true q300
              have p301 : 0 ≤ (x7_1 : Int) := of_decide_eq_true (by first | (with_reducible assumption) | assumption)
              have q301 : x7_1 < (l0.length : Int) := of_decide_eq_true (by first | (with_reducible assumption) | assumption)
              obtain ⟨ad301, e301, hx301_0, hx301_1, hx301_2, hx301_3, hx301_4⟩ := at_T38 HR0.out x7_1 p301 q301
              obtain rfl : ad300 = ad301 := (by injection e301)
              replace p301 := eq_true p301
              replace q301 := eq_true q301
              go_wp2
              go_ret
              exact ⟨by first | rfl | (simp; done) | (simp [*]; done), by repeat (first | exact Drawn0.refl _ | apply Drawn0.step)⟩
            · rw [if_neg c7] at H
              have c7b0 : (((rd_T38 l0 x7_1).f3) == a1) = false := beq_eq_false_iff_ne.mpr c7
              have c7b1 : (((rd_T38 l0 x7_1).f3) != a1) = true := bne_iff_ne.mpr c7
              have H' := Aside0.mk H
              clear H
              have p300 : 0 ≤ (x7_1 : Int) := of_decide_eq_true (by first | (with_reducible assumption) | assumption)
              have q300 : x7_1 < (l0.length : Int) := of_decide_eq_true (by first | (with_reducible assumption) | assumption)
              obtain ⟨ad300, e300, hx300_0, hx300_1, hx300_2, hx300_3, hx300_4⟩ := at_T38 HR0.out x7_1 p300 q300
              cases e300
              replace p300 := eq_true p300
              replace q300 := eq_true q300
              have p301 : 0 ≤ (x7_1 : Int) := of_decide_eq_true (by first | (with_reducible assumption) | assumption)
              have q301 : x7_1 < (l0.length : Int) := of_decide_eq_true (by first | (with_reducible assumption) | assumption)
              obtain ⟨ad301, e301, hx301_0, hx301_1, hx301_2, hx301_3, hx301_4⟩ := at_T38 HR0.out x7_1 p301 q301
              obtain rfl : ad300 = ad301 := (by injection e301)
              replace p301 := eq_true p301
              replace q301 := eq_true q301
              go_wp2
              go_roundg k1
              case measure => have := HK1.out; omega
              case rel => exact ⟨(wrap64 (x7_1 + 1)), (by first | rfl | (simp; done) | (simp [*]; done)), H', ⟨by have := HK1.out; omega⟩, by repeat (first | exact Drawn0.refl _ | apply Drawn0.step)⟩
          · rw [if_neg c6] at H
            have c6b0 : (((rd_T38 l0 x7_1).f0) == 4) = false := beq_eq_false_iff_ne.mpr c6
            have c6b1 : (((rd_T38 l0 x7_1).f0) != 4) = true := bne_iff_ne.mpr c6
            have H' := Aside0.mk H
            clear H
            have p300 : 0 ≤ (x7_1 : Int) := of_decide_eq_true (by first | (with_reducible assumption) | assumption)
            have q300 : x7_1 < (l0.length : Int) := of_decide_eq_true (by first | (with_reducible assumption) | assumption)
            obtain ⟨ad300, e300, hx300_0, hx300_1, hx300_2, hx300_3, hx300_4⟩ := at_T38 HR0.out x7_1 p300 q300
            cases e300
            replace p300 := eq_true p300
            replace q300 := eq_true q300
            go_wp2
            go_roundg k1
            case measure => have := HK1.out; omega
            case rel => exact ⟨(wrap64 (x7_1 + 1)), (by first | rfl | (simp; done) | (simp [*]; done)), H', ⟨by have := HK1.out; omega⟩, by repeat (first | exact Drawn0.refl _ | apply Drawn0.step)⟩
        · rw [if_neg c5] at H
          exact absurd H (by simp)
      · rw [if_neg c4] at H
        have c4b0 : decide (x7_1 < (l0.length : Int)) = false := decide_eq_false c4
        clear c4
        obtain rfl := Option.some.inj H
        go_wp2
        go_ret
        exact ⟨by first | rfl | (simp; done) | (simp [*]; done), by repeat (first | exact Drawn0.refl _ | apply Drawn0.step)⟩

end Go.Proofs.Ytmjpibeiglicdaa.T
