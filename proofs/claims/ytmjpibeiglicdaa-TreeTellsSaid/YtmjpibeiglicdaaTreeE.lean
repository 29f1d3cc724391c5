/- tree.Build: the whole tree. -/
import Derived.Test.YtmjpibeiglicdaaTreeD
namespace Go.Proofs.Ytmjpibeiglicdaa.TreeB
open Go.RowKit Go.Proofs.Ytmjpibeiglicdaa.T Go.Proofs.YtmjpibeiglicdaaV.PrintWords Go.Proofs.YtmjpibeiglicdaaV.PrintLast Go.Proofs.YtmjpibeiglicdaaV.PrintMore
set_option linter.unusedVariables false
set_option linter.unusedSimpArgs false

theorem Bld.start {w w1 w2 : World} {gb : Nat} {a1 a2 : Int} (hB : Below w.heap.size w w1) (hg : gb = w1.heap.size) (hbox : w2.heap[gb]? = some (.cells #[.slice none 0 0, .int .i64 a1, .int .i64 a2] 117 (0, 0))) (hbb : Below w1.heap.size w1 w2) : Bld w w2 gb [] a1 a2 :=
  ⟨.slice none 0 0, hbox, by rw [hg]; exact hB.size, Kd.R_nil _ _ _ _ _, below_step hB hbb⟩
/-- What Build answers (e: what is wrong). -/
def buildF (l : List S113) (other first e : Int) : List S40 × Int × Int :=
  if e = 0 then ((rowsF l.length l other first).1, (rowsF l.length l other first).2, 0) else ([], 0, e)

set_option maxHeartbeats 4000000 in
set_option maxRecDepth 100000 in
theorem build_wrong (A0 : Option Addr) (c0 : Nat) (l0 : List S113) (a1 a2 e0 : Int) (w : World)
    (hw : Calls Try.prog 72 #[.slice A0 l0.length c0, .int .i64 a1, .int .i64 a2] w fun e w' => e = .returned (.int .i64 e0) ∧ Below w.heap.size w w') (hf : e0 ≠ 0) :
    Calls Try.prog 29 #[.slice A0 l0.length c0, .int .i64 a1, .int .i64 a2] w fun e w' => ∃ v0_ : Value, e = .returned (.tuple #[v0_, .int .i64 0, .int .i64 e0]) ∧ Kd.R k40 40 w' w.heap.size (fun _ => True) v0_ [] ∧ Below w.heap.size w w' := by
  have HW := Aside0.mk hw
  have t0 : (e0 != 0) = true := bne_iff_ne.2 hf
  have t1 : (e0 == 0) = false := beq_eq_false_iff_ne.2 hf
  clear hw hf
  go_enter Try.func29, Try.ntmps29
  go_wp2_with (go_at_call 72; (with_reducible refine HW.out.mono ?_); rintro e w1 ⟨rfl, hb1⟩; have HB := Aside0.mk hb1; clear hb1)
  go_ret3
  exact ⟨_, rfl, Kd.R_nil _ _ _ _ _, HB.out⟩

set_option maxHeartbeats 4000000 in
set_option maxRecDepth 100000 in
theorem build_right (A0 : Option Addr) (c0 : Nat) (l0 : List S113) (a1 a2 : Int) (w : World) (hr0 : Kd.C k113 w A0 l0.length l0) (hc0 : l0.length ≤ c0)
    (hw : Calls Try.prog 72 #[.slice A0 l0.length c0, .int .i64 a1, .int .i64 a2] w fun e w' => e = .returned (.int .i64 0) ∧ Below w.heap.size w w') (h1 : l0.length ≤ 4096) (h2 : 1 ≤ a2) (h3 : a2 ≤ 1073741824) :
    Calls Try.prog 29 #[.slice A0 l0.length c0, .int .i64 a1, .int .i64 a2] w fun e w' => ∃ v0_ : Value, e = .returned (.tuple #[v0_, .int .i64 (rowsF l0.length l0 a1 a2).2, .int .i64 0]) ∧ Kd.R k40 40 w' w.heap.size (fun _ => True) v0_ (rowsF l0.length l0 a1 a2).1 ∧ Below w.heap.size w w' := by
  have HW := Aside0.mk hw
  have HR := Aside0.mk hr0
  have HC := Aside0.mk hc0
  have HN := Aside0.mk (rows_calls w)
  obtain ⟨items, hi⟩ : ∃ r, r = (rowsF l0.length l0 a1 a2).1 := ⟨_, rfl⟩
  obtain ⟨next, hx⟩ : ∃ r, r = (rowsF l0.length l0 a1 a2).2 := ⟨_, rfl⟩
  rw [← hi, ← hx]
  have HI := Aside0.mk hi
  have HX := Aside0.mk hx
  clear hw hr0 hc0 hi hx
  go_enter Try.func29, Try.ntmps29
  go_wp2_with (first
    | (go_at_call 72; (with_reducible refine HW.out.mono ?_); rintro e w1 ⟨rfl, hb1⟩; have HB := Aside0.mk hb1; clear hb1)
    | ((with_reducible refine gate_dst (N := 21) rfl ?_); refine box_event ?hg (N := 21) ?hd (cs := #[.slice none 0 0, .int .i64 a1, .int .i64 a2]) (t := 117) ?hr ?_; (case hd => rfl); (case hg => rfl); (case hr => first | (go_simp; done) | (go_simp; rfl)); intro gb hgb w2 hbox hbb; have hA := Aside0.mk (Bld.start HB.out hgb hbox hbb); clear hbox hbb hgb HB)
    | (go_at_call 73; (with_reducible refine (HN.out gb a1 l0.length l0 _ [] a2 A0 c0 (Nat.le_refl _) hA.out HR.out HC.out (by simp only [List.length_nil]; omega) (by omega) (by omega) h1).mono ?_); rintro e w3 ⟨rfl, hb3, hk3⟩; rw [List.nil_append, ← HI.out, ← HX.out] at hb3; have hA3 := Aside0.mk hb3; obtain ⟨v, hb4, hB4, hR4, hBel4⟩ := hb3; have d0 : w3.cell? ⟨gb, 0, none⟩ = some v := (blk_cell hb4 0).trans rfl; have d2 : w3.cell? ⟨gb, 2, none⟩ = some (.int .i64 next) := (blk_cell hb4 2).trans rfl; have HR4 := Aside0.mk hR4; have HB4 := Aside0.mk hBel4; clear hk3 hA hb4 hB4 hR4 hBel4))
  go_quiet (fail)
  go_wp2
  go_ret3
  exact ⟨_, rfl, Kd.R_mono HR4.out (fun _ _ => trivial), by repeat (first | exact HB4.out | apply pw_below_drewN)⟩

theorem build_calls (A0 : Option Addr) (c0 : Nat) (l0 : List S113) (a1 a2 e0 : Int) (r1 : List S40) (r2 r3 : Int) (w : World) (hr0 : Kd.C k113 w A0 l0.length l0) (hc0 : l0.length ≤ c0)
    (hw : Calls Try.prog 72 #[.slice A0 l0.length c0, .int .i64 a1, .int .i64 a2] w fun e w' => e = .returned (.int .i64 e0) ∧ Below w.heap.size w w') (hf : e0 = 0 → l0.length ≤ 4096 ∧ 1 ≤ a2 ∧ a2 ≤ 1073741824) (h : some (buildF l0 a1 a2 e0) = some (r1, r2, r3)) :
    Calls Try.prog 29 #[.slice A0 l0.length c0, .int .i64 a1, .int .i64 a2] w fun e w' => ∃ v0_ : Value, e = .returned (.tuple #[v0_, .int .i64 r2, .int .i64 r3]) ∧ Kd.R k40 40 w' w.heap.size (fun _ => True) v0_ r1 ∧ Below w.heap.size w w' := by
  replace h := Option.some.inj h
  unfold buildF at h
  by_cases z : e0 = 0
  · rw [if_pos z] at h
    subst z
    obtain ⟨f1, f2, f3⟩ := hf rfl
    simp only [Prod.mk.injEq] at h
    obtain ⟨rfl, rfl, rfl⟩ := h
    exact build_right A0 c0 l0 a1 a2 w hr0 hc0 hw f1 f2 f3
  · rw [if_neg z] at h
    simp only [Prod.mk.injEq] at h
    obtain ⟨rfl, rfl, rfl⟩ := h
    exact build_wrong A0 c0 l0 a1 a2 e0 w hw z
end Go.Proofs.Ytmjpibeiglicdaa.TreeB
