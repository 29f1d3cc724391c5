/- emit.Check, Long, Size, Emit: their contracts. -/
import Derived.Test.YtmjpibeiglicdaaEmitG
namespace Go.Proofs.Ytmjpibeiglicdaa.EmitB
open Go.RowKit Go.Proofs.Ytmjpibeiglicdaa.E Go.Proofs.YtmjpibeiglicdaaU.PrintWords Go.Proofs.YtmjpibeiglicdaaU.PrintLast Go.Proofs.YtmjpibeiglicdaaU.PrintMore
open Go.Proofs.Ytmjpibeiglicdaa.MapI (wf upd Is)
set_option linter.unusedVariables false
set_option linter.unusedSimpArgs false

def wfB (l : List S40) : Bool := l.all fun x => (Lit.int .i64 x.f3).wf && (Lit.int .i64 x.f4).wf
theorem wf_of {l : List S40} (h : wfB l = true) : WfI l := by
  have w0 : wf 0 := by unfold wf; decide
  intro i
  unfold at_
  rw [List.getD_eq_getElem?_getD]
  by_cases c : i < l.length
  · rw [List.getElem?_eq_getElem c, Option.getD_some]
    have := List.all_eq_true.1 h _ (List.getElem_mem c)
    rw [Bool.and_eq_true] at this
    exact this
  · rw [List.getElem?_eq_none (by omega), Option.getD_none]; exact ⟨w0, w0⟩
def FormedC : Prop := ∀ (x : S40) (w : World), Calls Try.prog 87 #[.agg #[.int .i64 x.f0, .int .u16 x.f1, .int .u32 x.f2, .int .i64 x.f3, .int .i64 x.f4]] w fun e w' => e = .returned (.bool (formedB x)) ∧ Below w.heap.size w w'
def TargetsC : Prop := ∀ (x : S40) (w : World), Calls Try.prog 88 #[.agg #[.int .i64 x.f0, .int .u16 x.f1, .int .u32 x.f2, .int .i64 x.f3, .int .i64 x.f4]] w fun e w' => ∃ v0_ : Value, e = .returned (v0_) ∧ Kd.R (Kd.int .i64) 3 w' w.heap.size (fun _ => True) v0_ (targetsL x) ∧ Below w.heap.size w w'
def checkF (l : List S40) : Option (Int × Int) := if wfB l = true then some (chk l) else none

set_option maxHeartbeats 4000000 in
set_option maxRecDepth 100000 in
theorem check_short (A : Option Addr) (c : Nat) (l : List S40) (w : World) (h0 : l.length = 0) : Calls Try.prog 50 #[.slice A l.length c] w fun e w' => e = .returned (.tuple #[.int .i64 0, .int .i64 4]) ∧ Below w.heap.size w w' := by
  have t0 : ((l.length : Int) == 0) = true := beq_iff_eq.2 (by omega)
  clear h0
  go_enter Try.func50, Try.ntmps50
  go_wp2
  go_ret2
  exact ⟨rfl, Below.refl _ _⟩
set_option maxHeartbeats 4000000 in
set_option maxRecDepth 100000 in
theorem check_long (A : Option Addr) (c : Nat) (l : List S40) (w : World) (h0 : l.length > 65536) : Calls Try.prog 50 #[.slice A l.length c] w fun e w' => e = .returned (.tuple #[.int .i64 0, .int .i64 5]) ∧ Below w.heap.size w w' := by
  have t0 : ((l.length : Int) == 0) = false := beq_eq_false_iff_ne.2 (by omega)
  have t1 : decide ((65536 : Int) < (l.length : Int)) = true := decide_eq_true (by omega)
  have t2 : decide (65536 < l.length) = true := decide_eq_true (by omega)
  have t3 : ¬ (l = []) := fun h => by rw [h] at h0; exact absurd h0 (by decide)
  clear h0
  go_enter Try.func50, Try.ntmps50
  go_wp2
  go_ret2
  exact ⟨rfl, Below.refl _ _⟩
theorem check_calls (A : Option Addr) (c : Nat) (l : List S40) (r1 r2 : Int) (w : World) (hr : Kd.C k40 w A l.length l) (hF : FormedC) (hT : TargetsC) (h : checkF l = some (r1, r2)) :
    Calls Try.prog 50 #[.slice A l.length c] w fun e w' => e = .returned (.tuple #[.int .i64 r1, .int .i64 r2]) ∧ Below w.heap.size w w' := by
  unfold checkF at h
  by_cases hw : wfB l = true
  · rw [if_pos hw] at h
    have h := Option.some.inj h
    have e1 : (chk l).1 = r1 := by rw [h]
    have e2 : (chk l).2 = r2 := by rw [h]
    rw [← e1, ← e2]
    by_cases c0 : l.length = 0
    · rw [show chk l = (0, 4) by unfold chk; rw [if_pos c0]]; exact check_short A c l w c0
    by_cases c1 : l.length > 65536
    · rw [show chk l = (0, 5) by unfold chk; rw [if_neg c0, if_pos c1]]; exact check_long A c l w c1
    exact check_walk A c l w hr (wf_of hw) (by omega) (by omega) hF hT
  · rw [if_neg hw] at h; cases h
theorem chk_fine {l : List S40} (h : (chk l).2 = 0) : 0 < l.length ∧ l.length ≤ 65536 := by
  unfold chk at h
  by_cases c0 : l.length = 0
  · rw [if_pos c0] at h; exact absurd h (by decide)
  by_cases c1 : l.length > 65536
  · rw [if_neg c0, if_pos c1] at h; exact absurd h (by decide)
  omega
/-- What Check tells, as a contract. -/
def CheckC (A : Option Addr) (c : Nat) (l : List S40) (w : World) : Prop := Calls Try.prog 50 #[.slice A l.length c] w fun e w' => e = .returned (.tuple #[.int .i64 (chk l).1, .int .i64 (chk l).2]) ∧ Below w.heap.size w w'

def start (l : List S40) : List Bool := List.replicate l.length false
def longF (k : Nat) (l : List S40) : Option (List Bool × Int) := if wfB l = true then (if (chk l).2 = 0 then (roundF l k (start l)).bind fun ls => some (ls, 0) else some ([], (chk l).2)) else none
def sizeF (k : Nat) (l : List S40) : Option (Int × Int) := if wfB l = true then (if (chk l).2 = 0 then (roundF l k (start l)).bind fun ls => some (placeAt l ls l.length, 0) else some (0, (chk l).2)) else none
def putAll (l : List S40) (ps : List Int) (ls : List Bool) : Nat → List S56
  | 0 => []
  | i + 1 => putAll l ps ls i ++ putL l ps ls i
def emitF (k : Nat) (l : List S40) : Option (List S56 × Int) := if wfB l = true then (if (chk l).2 = 0 then (roundF l k (start l)).bind fun ls => (if placeAt l ls l.length > 4096 then some ([], 14) else some (putAll l (places l ls) ls l.length, 0)) else some ([], (chk l).2)) else none
theorem long_mono : ∀ l k, LeO (longF k l) (longF (k + 1) l) := fun l k => by
  unfold longF
  split
  · split
    · exact LeO.bind (round_mono l k _) (fun _ => LeO.refl _)
    · exact LeO.refl _
  · exact LeO.refl _
theorem size_mono : ∀ l k, LeO (sizeF k l) (sizeF (k + 1) l) := fun l k => by
  unfold sizeF
  split
  · split
    · exact LeO.bind (round_mono l k _) (fun _ => LeO.refl _)
    · exact LeO.refl _
  · exact LeO.refl _
theorem emit_mono : ∀ l k, LeO (emitF k l) (emitF (k + 1) l) := fun l k => by
  unfold emitF
  split
  · split
    · exact LeO.bind (round_mono l k _) (fun _ => LeO.refl _)
    · exact LeO.refl _
  · exact LeO.refl _
theorem put_len (l : List S40) (ps : List Int) (ls : List Bool) : ∀ i, (putAll l ps ls i).length ≤ 3 * i
  | 0 => Nat.le_refl _
  | i + 1 => by
    have a := put_len l ps ls i
    have b : (putL l ps ls i).length ≤ 3 := by unfold putL; (repeat' split) <;> simp
    rw [putAll, List.length_append]; omega

set_option maxHeartbeats 4000000 in
set_option maxRecDepth 100000 in
theorem long_calls (k : Nat) (A : Option Addr) (c : Nat) (l : List S40) (r1 : List Bool) (r2 : Int) (w : World) (hr : Kd.C k40 w A l.length l) (hC0 : wfB l = true → CheckC A c l w) (h : longF k l = some (r1, r2)) :
    Calls Try.prog 53 #[.slice A l.length c] w fun e w' => ∃ v0_ : Value, e = .returned (.tuple #[v0_, .int .i64 r2]) ∧ Kd.R Kd.bool 4 w' w.heap.size (fun _ => True) v0_ r1 ∧ Below w.heap.size w w' := by
  unfold longF at h
  by_cases hw : wfB l = true
  · rw [if_pos hw] at h
    have hC := hC0 hw
    obtain ⟨c1, hc1⟩ : ∃ x, (chk l).1 = x := ⟨_, rfl⟩
    obtain ⟨c2, hc2⟩ : ∃ x, (chk l).2 = x := ⟨_, rfl⟩
    have HC := Aside0.mk hC
    unfold CheckC at HC
    rw [hc1, hc2] at HC
    rw [hc2] at h
    by_cases z : c2 = 0
    · rw [if_pos z] at h
      obtain ⟨ls, h1, h2⟩ := Option.bind_eq_some_iff.1 h
      simp only [Option.some.injEq, Prod.mk.injEq] at h2
      obtain ⟨rfl, rfl⟩ := h2
      subst z
      obtain ⟨f0, f1⟩ := chk_fine hc2
      have HL := Aside0.mk (fun (W : World) (hb : Below w.heap.size w W) => laid_calls k A c l ls W (Kd.C_below hr hb) (wf_of hw) f0 f1 h1)
      clear hr hC hC0 h h1 hw hc1 hc2
      go_enter Try.func53, Try.ntmps53
      go_wp2_with (first | (go_at_call 50; (with_reducible refine HC.out.mono ?_); rintro e w1 ⟨rfl, hb1⟩; have HB := Aside0.mk hb1; clear hb1) | (go_at_call 89; (with_reducible refine (HL.out _ HB.out).mono ?_); rintro e w2 ⟨b, rfl, hlay⟩; have e3 := hlay.c3; have L := Aside0.mk hlay; clear hlay))
      go_ret2
      exact ⟨_, rfl, Kd.R_lower L.out.hg (below_size HB.out), below_step HB.out L.out.bel⟩
    · rw [if_neg z] at h
      simp only [Option.some.injEq, Prod.mk.injEq] at h
      obtain ⟨rfl, rfl⟩ := h
      have t0 : (c2 != 0) = true := bne_iff_ne.2 z
      clear hr hC hC0 hw hc1 hc2 z
      go_enter Try.func53, Try.ntmps53
      go_wp2_with (go_at_call 50; (with_reducible refine HC.out.mono ?_); rintro e w1 ⟨rfl, hb1⟩; have HB := Aside0.mk hb1; clear hb1)
      go_ret2
      exact ⟨_, rfl, Kd.R_nil _ _ _ _ _, HB.out⟩
  · rw [if_neg hw] at h; cases h
set_option maxHeartbeats 4000000 in
set_option maxRecDepth 100000 in
theorem size_calls (k : Nat) (A : Option Addr) (c : Nat) (l : List S40) (r1 : Int) (r2 : Int) (w : World) (hr : Kd.C k40 w A l.length l) (hC0 : wfB l = true → CheckC A c l w) (h : sizeF k l = some (r1, r2)) :
    Calls Try.prog 52 #[.slice A l.length c] w fun e w' => e = .returned (.tuple #[.int .i64 r1, .int .i64 r2]) ∧ Below w.heap.size w w' := by
  unfold sizeF at h
  by_cases hw : wfB l = true
  · rw [if_pos hw] at h
    have hC := hC0 hw
    obtain ⟨c1, hc1⟩ : ∃ x, (chk l).1 = x := ⟨_, rfl⟩
    obtain ⟨c2, hc2⟩ : ∃ x, (chk l).2 = x := ⟨_, rfl⟩
    have HC := Aside0.mk hC
    unfold CheckC at HC
    rw [hc1, hc2] at HC
    rw [hc2] at h
    by_cases z : c2 = 0
    · rw [if_pos z] at h
      obtain ⟨ls, h1, h2⟩ := Option.bind_eq_some_iff.1 h
      simp only [Option.some.injEq, Prod.mk.injEq] at h2
      obtain ⟨h2, rfl⟩ := h2
      subst z
      obtain ⟨f0, f1⟩ := chk_fine hc2
      have HL := Aside0.mk (fun (W : World) (hb : Below w.heap.size w W) => laid_calls k A c l ls W (Kd.C_below hr hb) (wf_of hw) f0 f1 h1)
      rw [h2] at HL
      clear hr hC hC0 h h1 hw hc1 hc2 h2
      go_enter Try.func52, Try.ntmps52
      go_wp2_with (first | (go_at_call 50; (with_reducible refine HC.out.mono ?_); rintro e w1 ⟨rfl, hb1⟩; have HB := Aside0.mk hb1; clear hb1) | (go_at_call 89; (with_reducible refine (HL.out _ HB.out).mono ?_); rintro e w2 ⟨b, rfl, hlay⟩; have e3 := hlay.c4; have L := Aside0.mk hlay; clear hlay))
      go_ret2
      exact ⟨rfl, below_step HB.out L.out.bel⟩
    · rw [if_neg z] at h
      simp only [Option.some.injEq, Prod.mk.injEq] at h
      obtain ⟨rfl, rfl⟩ := h
      have t0 : (c2 != 0) = true := bne_iff_ne.2 z
      clear hr hC hC0 hw hc1 hc2 z
      go_enter Try.func52, Try.ntmps52
      go_wp2_with (go_at_call 50; (with_reducible refine HC.out.mono ?_); rintro e w1 ⟨rfl, hb1⟩; have HB := Aside0.mk hb1; clear hb1)
      go_ret2
      exact ⟨rfl, HB.out⟩
  · rw [if_neg hw] at h; cases h
set_option maxHeartbeats 4000000 in
set_option maxRecDepth 100000 in
theorem emit_calls (k : Nat) (A : Option Addr) (c : Nat) (l : List S40) (r1 : List S56) (r2 : Int) (w : World) (hr : Kd.C k40 w A l.length l) (hC0 : wfB l = true → CheckC A c l w) (h : emitF k l = some (r1, r2)) :
    Calls Try.prog 51 #[.slice A l.length c] w fun e w' => ∃ v0_ : Value, e = .returned (.tuple #[v0_, .int .i64 r2]) ∧ Kd.R k56 56 w' w.heap.size (fun _ => True) v0_ r1 ∧ Below w.heap.size w w' := by
  unfold emitF at h
  by_cases hw : wfB l = true
  · rw [if_pos hw] at h
    have hC := hC0 hw
    obtain ⟨c1, hc1⟩ : ∃ x, (chk l).1 = x := ⟨_, rfl⟩
    obtain ⟨c2, hc2⟩ : ∃ x, (chk l).2 = x := ⟨_, rfl⟩
    have HC := Aside0.mk hC
    unfold CheckC at HC
    rw [hc1, hc2] at HC
    rw [hc2] at h
    by_cases z : c2 = 0
    · rw [if_pos z] at h
      obtain ⟨ls, h1, h2⟩ := Option.bind_eq_some_iff.1 h
      subst z
      obtain ⟨f0, f1⟩ := chk_fine hc2
      have HL := Aside0.mk (fun (W : World) (hb : Below w.heap.size w W) => laid_calls k A c l ls W (Kd.C_below hr hb) (wf_of hw) f0 f1 h1)
      have HR := Aside0.mk hr
      have HW := Aside0.mk (wf_of hw)
      obtain ⟨sz, hsz⟩ : ∃ x, placeAt l ls l.length = x := ⟨_, rfl⟩
      rw [hsz] at HL h2
      by_cases big : sz > 4096
      · rw [if_pos big] at h2
        simp only [Option.some.injEq, Prod.mk.injEq] at h2
        obtain ⟨rfl, rfl⟩ := h2
        have t1 : decide (4096 < sz) = true := decide_eq_true big
        clear hr hC hC0 h h1 hw hc1 hc2 hsz big
        go_enter Try.func51, Try.ntmps51
        go_wp2_with (first | (go_at_call 50; (with_reducible refine HC.out.mono ?_); rintro e w1 ⟨rfl, hb1⟩; have HB := Aside0.mk hb1; clear hb1) | (go_at_call 89; (with_reducible refine (HL.out _ HB.out).mono ?_); rintro e w2 ⟨b, rfl, hlay⟩; have e3 := hlay.c4; have L := Aside0.mk hlay; clear hlay))
        go_ret2
        exact ⟨_, rfl, Kd.R_nil _ _ _ _ _, below_step HB.out L.out.bel⟩
      · rw [if_neg big] at h2
        simp only [Option.some.injEq, Prod.mk.injEq] at h2
        obtain ⟨h2, rfl⟩ := h2
        have H2 := Aside0.mk h2
        have t1 : decide (4096 < sz) = false := decide_eq_false big
        clear hr hC hC0 h h1 hw hc1 hc2 hsz big h2
        go_enter Try.func51, Try.ntmps51
        go_wp2_with (first | (go_at_call 50; (with_reducible refine HC.out.mono ?_); rintro e w1 ⟨rfl, hb1⟩; have HB := Aside0.mk hb1; clear hb1) | (go_at_call 89; (with_reducible refine (HL.out _ HB.out).mono ?_); rintro e w2 ⟨b, rfl, hlay⟩; have e3 := hlay.c4; have L := Aside0.mk hlay; clear hlay))
        go_loopw [2, 25] (fun v i wr => ∃ k : Nat, k ≤ l.length ∧ i = .int .i64 k ∧ Aside0 (Kd.R k56 56 wr w1.heap.size (fun _ => True) v (putAll l (places l ls) ls k)) ∧ Aside0 (Lay w1 wr b A c l (places l ls) ls sz)) (fun _ i _ => l.length - (intOf i).toNat)
        case atStart => exact ⟨0, Nat.zero_le _, rfl, Aside0.mk (Kd.R_nil _ _ _ _ _), L⟩
        case round =>
          obtain ⟨i, hi, rfl, RR, LL⟩ := hrel
          obtain ⟨A5, c5, rfl⟩ := Kd.R_slice RR.out
          by_cases hlt : i < l.length
          · have PL := Aside0.mk (Nat.le_trans (put_len l (places l ls) ls i) (show 3 * i ≤ 1000000 by omega))
            go_wp2_with (go_at_call 90; (with_reducible refine (put_calls w1 _ b A c l _ ls sz (Kd.C_below HR.out HB.out) LL.out HW.out (places_small l ls f1) i hlt _ _ RR.out PL.out).mono ?_); rintro e w4 ⟨v4, rfl, hR4, hL4⟩; obtain ⟨A6, c6, rfl⟩ := Kd.R_slice hR4; rw [List.length_append] at hR4; have R4 := Aside0.mk hR4; have L4 := Aside0.mk hL4; clear hR4 hL4)
            go_roundw
            case rel => exact ⟨i + 1, by omega, by go_num, by rw [putAll]; exact R4, L4⟩
            case measure => simp [intOf]; omega
          · have e : i = l.length := by omega
            subst e
            go_wp2
            go_ret2
            exact ⟨_, rfl, by rw [← H2.out]; exact Kd.R_lower RR.out (below_size HB.out), below_step HB.out LL.out.bel⟩
    · rw [if_neg z] at h
      simp only [Option.some.injEq, Prod.mk.injEq] at h
      obtain ⟨rfl, rfl⟩ := h
      have t0 : (c2 != 0) = true := bne_iff_ne.2 z
      clear hr hC hC0 hw hc1 hc2 z
      go_enter Try.func51, Try.ntmps51
      go_wp2_with (go_at_call 50; (with_reducible refine HC.out.mono ?_); rintro e w1 ⟨rfl, hb1⟩; have HB := Aside0.mk hb1; clear hb1)
      go_ret2
      exact ⟨_, rfl, Kd.R_nil _ _ _ _ _, HB.out⟩
  · rw [if_neg hw] at h; cases h
end Go.Proofs.Ytmjpibeiglicdaa.EmitB
