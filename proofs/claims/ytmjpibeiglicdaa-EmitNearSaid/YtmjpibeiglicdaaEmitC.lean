/- emit.Check: what is wrong with items. -/
import Derived.Test.YtmjpibeiglicdaaEmitB
import Derived.Test.YtmjpibeiglicdaaKind
namespace Go.Proofs.Ytmjpibeiglicdaa.EmitB
open Go.RowKit Go.Proofs.Ytmjpibeiglicdaa.E Go.Proofs.YtmjpibeiglicdaaU.PrintWords Go.Proofs.YtmjpibeiglicdaaU.PrintLast Go.Proofs.YtmjpibeiglicdaaU.PrintMore
open Go.Proofs.Ytmjpibeiglicdaa.MapI (wf upd Is)
open Go.Proofs.Ytmjpibeiglicdaa.Code (kindOf)
set_option linter.unusedVariables false
set_option linter.unusedSimpArgs false

def formedB (x : S40) : Bool :=
  (decide (x.f0 = 1) && !(decide (kindOf x.f1 = 0) || decide (kindOf x.f1 = 11) || decide (kindOf x.f1 = 12)) && decide (x.f3 = 0) && decide (x.f4 = 0)) ||
  ((decide (x.f0 = 2) || decide (x.f0 = 4)) && decide (x.f1 = 0) && decide (x.f2 = 0) && decide (x.f4 = 0)) || (decide (x.f0 = 3) && decide (kindOf x.f1 = 12))
def targetsL (x : S40) : List Int := if x.f0 = 2 then [x.f3] else if x.f0 = 3 then [x.f3, x.f4] else []
/-- How often labels are marked among the first items. -/
def seenM (l : List S40) : Nat → Int → Option Int
  | 0 => fun _ => none
  | i + 1 => if (at_ l i).f0 = 4 then upd (seenM l i) (at_ l i).f3 ((seenM l i (at_ l i).f3).getD 0 + 1) else seenM l i
theorem seen_range (l : List S40) (t : Int) : ∀ i : Nat, 0 ≤ (seenM l i t).getD 0 ∧ (seenM l i t).getD 0 ≤ i
  | 0 => ⟨Int.le_refl _, Int.le_refl _⟩
  | i + 1 => by
    have a := seen_range l t i
    have b := seen_range l (at_ l i).f3 i
    rw [seenM]
    by_cases c : (at_ l i).f0 = 4
    · rw [if_pos c]
      unfold upd
      by_cases e : t = (at_ l i).f3
      · rw [if_pos e, Option.getD_some]; omega
      · rw [if_neg e]; omega
    · rw [if_neg c]; omega
/-- A label to which an item at i can't go. -/
def lost (l : List S40) (i : Nat) (t : Int) : Bool := !(lastM l l.length t).isSome || decide ((lastM l l.length t).getD 0 < (i : Int))
/-- What is wrong with the item at i. -/
def stepE (l : List S40) (i : Nat) : Int :=
  if formedB (at_ l i) = false then 3
  else if (at_ l i).f0 = 4 ∧ (seenM l i (at_ l i).f3).getD 0 ≥ 1 then 1
  else if (targetsL (at_ l i)).any (lost l i) = true then 15 else 0
def scanE (l : List S40) : Nat → Nat → Int × Int
  | 0, _ => if (at_ l (l.length - 1)).f0 = 1 then (0, 0) else (((l.length - 1 : Nat) : Int), 12)
  | d + 1, i => if stepE l i = 0 then scanE l d (i + 1) else ((i : Int), stepE l i)
def chk (l : List S40) : Int × Int := if l.length = 0 then (0, 4) else if l.length > 65536 then (0, 5) else scanE l l.length 0
theorem scan_at {l : List S40} {v : Int} : ∀ {d i k : Nat}, i ≤ k → k < i + d → (∀ j, i ≤ j → j < k → stepE l j = 0) → stepE l k = v → v ≠ 0 → scanE l d i = ((k : Int), v)
  | 0, i, k, h1, h2, _, _, _ => by omega
  | d + 1, i, k, h1, h2, hj, hv, hn => by
    rw [scanE]
    by_cases e : i = k
    · rw [e, hv, if_neg hn]
    · rw [if_pos (hj i (Nat.le_refl _) (by omega))]
      exact scan_at (by omega) (by omega) (fun j a b => hj j (by omega) b) hv hn
theorem scan_end {l : List S40} : ∀ {d i : Nat}, (∀ j, i ≤ j → j < i + d → stepE l j = 0) → scanE l d i = if (at_ l (l.length - 1)).f0 = 1 then (0, 0) else (((l.length - 1 : Nat) : Int), 12)
  | 0, i, _ => rfl
  | d + 1, i, hj => by
    rw [scanE, if_pos (hj i (Nat.le_refl _) (by omega))]
    exact scan_end (fun j a b => hj j (by omega) (by omega))
theorem chk_at {l : List S40} {k : Nat} {v : Int} (hl : l.length ≤ 65536) (hk : k < l.length) (hj : ∀ j, j < k → stepE l j = 0) (hv : stepE l k = v) (hn : v ≠ 0) : chk l = ((k : Int), v) := by
  unfold chk
  rw [if_neg (by omega), if_neg (by omega)]
  exact scan_at (by omega) (by omega) (fun j _ b => hj j b) hv hn
theorem chk_end {l : List S40} (h0 : 0 < l.length) (hl : l.length ≤ 65536) (hj : ∀ j, j < l.length → stepE l j = 0) : chk l = if (at_ l (l.length - 1)).f0 = 1 then (0, 0) else (((l.length - 1 : Nat) : Int), 12) := by
  unfold chk
  rw [if_neg (by omega), if_neg (by omega)]
  exact scan_end (fun j _ b => hj j (by omega))

theorem after_box {wr w2 : World} {cs : Array Value} {t : TypeId} (hb : Below (wr.alloc (.cells cs t)).heap.size (wr.alloc (.cells cs t)) w2) : w2.heap[wr.heap.size]? = some (.cells cs t (0, 0)) :=
  (hb.block _ (by simp)).trans (heap_alloc_new wr _)
theorem is_below {w w' : World} {b n : Nat} {m : Int → Option Int} (h : Is w b n m) (hb : Below w.heap.size w w') : Is w' b n m := by
  obtain ⟨es, ck, e⟩ := h.blk
  exact h.same (hb.block b (blk_lt e))
theorem is_alloc {w : World} {b n : Nat} {m : Int → Option Int} (h : Is w b n m) (o : Obj) : Is (w.alloc o) b n m := h.kept (row := none) (World.grownBy_alloc _ _ _) (by simp)
theorem cell_i64 {w : World} {A : Option Addr} {n : Nat} {xs : List Int} (h : Kd.C (Kd.int .i64) w A n xs) (m : Nat) (hm : m < n) : ∃ ad, A = some ad ∧ w.cell? (ad.add m) = some (.int .i64 (xs.getD m 0)) := by
  obtain ⟨ad, c, e, _, hK, hc⟩ := Kd.C_get h (0 : Int) (m : Int) (by omega) (by omega)
  refine ⟨ad, e, ?_⟩
  have := hc 0 (.int .i64 (xs.getD m 0)) (by rw [show c = [.int .i64 (xs.getD (m : Int).toNat 0)] from hK, Int.toNat_natCast]; rfl)
  rw [Int.toNat_natCast] at this
  have e1 : m * (Kd.int .i64).sz + 0 = m := by show m * 1 + 0 = m; omega
  rw [e1] at this
  exact this
theorem any_false {l : List S40} {k : Nat} {ts : List Int} (h : ∀ m, m < ts.length → lost l k (ts.getD m 0) = false) : ts.any (lost l k) = false := by
  rw [List.any_eq_false]
  intro t ht
  obtain ⟨m, hm, rfl⟩ := List.getElem_of_mem ht
  have := h m hm
  rw [List.getD_eq_getElem?_getD, List.getElem?_eq_getElem hm, Option.getD_some] at this
  rw [this]; decide
theorem any_true {l : List S40} {k : Nat} {ts : List Int} {m : Nat} (hm : m < ts.length) (h : lost l k (ts.getD m 0) = true) : ts.any (lost l k) = true := by
  rw [List.getD_eq_getElem?_getD, List.getElem?_eq_getElem hm, Option.getD_some] at h
  exact List.any_eq_true.2 ⟨_, List.getElem_mem hm, h⟩
theorem upd_self (m : Int → Option Int) (x v : Int) : ((upd m x v) x).getD 0 = v := by unfold upd; rw [if_pos rfl]; rfl
theorem target_wf {x : S40} (h3 : wf x.f3) (h4 : wf x.f4) (m : Nat) : wf ((targetsL x).getD m 0) := by
  have w0 : wf 0 := by unfold wf; decide
  unfold targetsL
  by_cases c2 : x.f0 = 2
  · rw [if_pos c2]
    match m with
    | 0 => exact h3
    | m + 1 => exact w0
  · rw [if_neg c2]
    by_cases c3 : x.f0 = 3
    · rw [if_pos c3]
      match m with
      | 0 => exact h3
      | 1 => exact h4
      | m + 2 => exact w0
    · rw [if_neg c3]; exact w0

theorem ret_two {a b c d : Int} (h1 : a = c) (h2 : b = d) : Ending.returned (.tuple #[.int .i64 a, .int .i64 b]) = .returned (.tuple #[.int .i64 c, .int .i64 d]) := by rw [h1, h2]

set_option maxHeartbeats 8000000 in
set_option maxRecDepth 100000 in
theorem check_walk (A : Option Addr) (c : Nat) (l : List S40) (w : World) (hr : Kd.C k40 w A l.length l) (hw : WfI l) (h0 : 0 < l.length) (hl : l.length ≤ 65536)
    (hF : ∀ (x : S40) (w : World), Calls Try.prog 87 #[.agg #[.int .i64 x.f0, .int .u16 x.f1, .int .u32 x.f2, .int .i64 x.f3, .int .i64 x.f4]] w fun e w' => e = .returned (.bool (formedB x)) ∧ Below w.heap.size w w')
    (hT : ∀ (x : S40) (w : World), Calls Try.prog 88 #[.agg #[.int .i64 x.f0, .int .u16 x.f1, .int .u32 x.f2, .int .i64 x.f3, .int .i64 x.f4]] w fun e w' => ∃ v0_ : Value, e = .returned (v0_) ∧ Kd.R (Kd.int .i64) 3 w' w.heap.size (fun _ => True) v0_ (targetsL x) ∧ Below w.heap.size w w') :
    Calls Try.prog 50 #[.slice A l.length c] w fun e w' => e = .returned (.tuple #[.int .i64 (chk l).1, .int .i64 (chk l).2]) ∧ Below w.heap.size w w' := by
  have hu40 := Try.underlying40
  have hmm := @run_makeMap Try.prog
  have HR := Aside0.mk hr
  have HW := Aside0.mk hw
  have HF := Aside0.mk hF
  have HT := Aside0.mk hT
  have HM := Aside0.mk (marks_calls A c l w hr hw hl)
  obtain ⟨r1, hr1⟩ : ∃ r, r = (chk l).1 := ⟨_, rfl⟩
  obtain ⟨r2, hr2⟩ : ∃ r, r = (chk l).2 := ⟨_, rfl⟩
  rw [← hr1, ← hr2]
  have HR1 := Aside0.mk hr1
  have HR2 := Aside0.mk hr2
  have t0 : ((l.length : Int) == 0) = false := beq_eq_false_iff_ne.2 (by omega)
  have t1 : decide ((65536 : Int) < (l.length : Int)) = false := decide_eq_false (by omega)
  have t2 : decide (65536 < l.length) = false := decide_eq_false (by omega)
  have t3 : ¬ (l = []) := fun h => by rw [h] at h0; exact absurd h0 (by decide)
  clear hr hw hF hT hr1 hr2
  go_enter Try.func50, Try.ntmps50
  go_wp2_with (go_at_call 86; (with_reducible refine HM.out.mono ?_); rintro e w1 ⟨b1, rfl, hb1, hi1, hbel1⟩; have HB1 := Aside0.mk hb1; have HI1 := Aside0.mk hi1; have HBel1 := Aside0.mk hbel1; clear hb1 hi1 hbel1)
  go_loopw [26] (fun i wr => ∃ k : Nat, k ≤ l.length ∧ i = .int .i64 k ∧ Is wr b1 l.length (lastM l l.length) ∧ Is wr w1.heap.size k (seenM l k) ∧ Below w.heap.size w wr ∧ (∀ j, j < k → stepE l j = 0)) (fun i _ => l.length - (intOf i).toNat)
  case atStart =>
    refine ⟨0, Nat.zero_le _, rfl, ?_, MapI.made w1, below_alloc HBel1.out _, fun j hj => absurd hj (Nat.not_lt_zero _)⟩
    exact HI1.out.kept (row := none) (World.grownBy_alloc _ _ _) (by simp)
  case round =>
    obtain ⟨k, hk, rfl, hm1, hm2, hbel, hz⟩ := hrel
    have M1 := Aside0.mk hm1
    have M2 := Aside0.mk hm2
    have HB := Aside0.mk hbel
    have HZ := Aside0.mk hz
    clear hm1 hm2 hbel hz
    by_cases hlt : k < l.length
    · obtain ⟨ad, rfl, c0, c1, c2, c3, c4⟩ := at_T40 (Kd.C_below HR.out HB.out) (k : Int) (by omega) (by omega)
      have ex : rd_T40 l (k : Int) = at_ l k := rfl
      rw [ex] at c0 c1 c2 c3 c4
      rw [Int.toNat_natCast] at c0 c1 c2 c3 c4
      obtain ⟨x, hx⟩ : ∃ x, at_ l k = x := ⟨_, rfl⟩
      rw [hx] at c0 c1 c2 c3 c4
      have HX := Aside0.mk hx
      have W3 := Aside0.mk (show wf x.f3 by rw [← hx]; exact (HW.out k).1)
      have W4 := Aside0.mk (show wf x.f4 by rw [← hx]; exact (HW.out k).2)
      clear hx ex
      by_cases hf : formedB x = false
      · have HV := Aside0.mk (chk_at (v := 3) hl hlt HZ.out (by unfold stepE; rw [HX.out, if_pos hf]) (by decide))
        have HE := Aside0.mk hf
        clear hf
        go_wp2_with (go_at_call 87; (with_reducible refine (HF.out x _).mono ?_); rintro e w2 ⟨rfl, hb2⟩; have t5 := HE.out; have HB2 := Aside0.mk (below_step (below_alloc HB.out _) hb2); clear hb2)
        go_ret2
        exact ⟨ret_two (by rw [HR1.out, HV.out]) (by rw [HR2.out, HV.out]), HB2.out⟩
      · have hf' : formedB x = true := by simpa using hf
        have HE := Aside0.mk hf'
        clear hf
        clear hf'
        have NE := Aside0.mk (show b1 ≠ w1.heap.size from fun e => by obtain ⟨es, ck, eq⟩ := HI1.out.blk; have := blk_lt eq; omega)
        have NF := Aside0.mk (show wr.heap.size ≠ w1.heap.size from fun e => by obtain ⟨es, ck, eq⟩ := M2.out.blk; have := blk_lt eq; omega)
        have HS1 := Aside0.mk (show w.heap.size ≤ w1.heap.size from HBel1.out.size)
        by_cases h4 : x.f0 = 4
        · obtain ⟨sn, hsn⟩ : ∃ s, (seenM l k x.f3).getD 0 = s := ⟨_, rfl⟩
          have hrg := seen_range l x.f3 k
          rw [hsn] at hrg
          obtain ⟨hs0, hs1⟩ := hrg
          have SN := Aside0.mk hsn
          have WS := Aside0.mk (show wf (sn + 1) from by have := wf_nat (sn.toNat + 1) (by omega); rwa [show ((sn.toNat + 1 : Nat) : Int) = sn + 1 by omega] at this)
          have t4 : (x.f0 == 4) = true := beq_iff_eq.2 h4
          have H4 := Aside0.mk h4
          clear hsn h4
          by_cases h1 : sn ≥ 1
          · have HV := Aside0.mk (chk_at (v := 1) hl hlt HZ.out (by unfold stepE; rw [HX.out, if_neg (by rw [HE.out]; decide), if_pos ⟨H4.out, by rw [SN.out]; exact h1⟩]) (by decide))
            have t6 : decide (1 < sn + 1) = true := decide_eq_true (by omega)
            clear h1
            go_wp2_with (first | (go_at_call 87; (with_reducible refine (HF.out x _).mono ?_); rintro e w2 ⟨rfl, hb2⟩; have t5 := HE.out; have HB2 := Aside0.mk (below_step (below_alloc HB.out _) hb2); have BX := Aside0.mk (after_box hb2); have N1 := Aside0.mk (is_below (is_alloc M1.out _) hb2); have N2 := Aside0.mk (is_below (is_alloc M2.out _) hb2); have d0 : w2.cell? ⟨wr.heap.size, 0, none⟩ = some (.int .i64 x.f0) := (blk_cell BX.out 0).trans rfl; have d1 : w2.cell? ⟨wr.heap.size, 1, none⟩ = some (.int .u16 x.f1) := (blk_cell BX.out 1).trans rfl; have d2 : w2.cell? ⟨wr.heap.size, 2, none⟩ = some (.int .u32 x.f2) := (blk_cell BX.out 2).trans rfl; have d3 : w2.cell? ⟨wr.heap.size, 3, none⟩ = some (.int .i64 x.f3) := (blk_cell BX.out 3).trans rfl; have d4 : w2.cell? ⟨wr.heap.size, 4, none⟩ = some (.int .i64 x.f4) := (blk_cell BX.out 4).trans rfl; clear hb2) | (at_lookup; refine MapI.wp_get rfl _ _ rfl rfl N2.out x.f3 rfl W3.out ?_; rw [SN.out]) | (at_mapUpdate; refine MapI.wp_set rfl _ _ _ rfl rfl N2.out (by unfold maxLen; omega) x.f3 (sn + 1) rfl rfl W3.out WS.out ?_; intro w3 hi hg; have P2 := Aside0.mk hi; have P1 := Aside0.mk (N1.out.kept hg (by intro h; injection h with h; exact NE.out h)); have BY := Aside0.mk (blk_grown BX.out hg (by intro h; injection h with h; exact NF.out h)); have HB3 := Aside0.mk (HB2.out.grown hg HB2.out.size (fun j hj => by cases hj; exact HS1.out)); have d0 : w3.cell? ⟨wr.heap.size, 0, none⟩ = some (.int .i64 x.f0) := (blk_cell BY.out 0).trans rfl; have d1 : w3.cell? ⟨wr.heap.size, 1, none⟩ = some (.int .u16 x.f1) := (blk_cell BY.out 1).trans rfl; have d2 : w3.cell? ⟨wr.heap.size, 2, none⟩ = some (.int .u32 x.f2) := (blk_cell BY.out 2).trans rfl; have d3 : w3.cell? ⟨wr.heap.size, 3, none⟩ = some (.int .i64 x.f3) := (blk_cell BY.out 3).trans rfl; have d4 : w3.cell? ⟨wr.heap.size, 4, none⟩ = some (.int .i64 x.f4) := (blk_cell BY.out 4).trans rfl; clear hi hg N1 N2) | (at_lookup; refine MapI.wp_get rfl _ _ rfl rfl P2.out x.f3 rfl W3.out ?_; rw [upd_self]))
            go_ret2
            exact ⟨ret_two (by rw [HR1.out, HV.out]) (by rw [HR2.out, HV.out]), HB3.out⟩
          · have HS := Aside0.mk (show stepE l k = if (targetsL x).any (lost l k) = true then 15 else 0 from by unfold stepE; rw [HX.out, if_neg (by rw [HE.out]; decide), if_neg (fun h => h1 (by rw [← SN.out]; exact h.2))])
            have HU := Aside0.mk (show seenM l (k + 1) = upd (seenM l k) x.f3 (sn + 1) from by rw [seenM, HX.out, if_pos H4.out, SN.out])
            have t6 : decide (1 < sn + 1) = false := decide_eq_false (by omega)
            clear h1
            go_wp2_with (first | (go_at_call 87; (with_reducible refine (HF.out x _).mono ?_); rintro e w2 ⟨rfl, hb2⟩; have t5 := HE.out; have HB2 := Aside0.mk (below_step (below_alloc HB.out _) hb2); have BX := Aside0.mk (after_box hb2); have N1 := Aside0.mk (is_below (is_alloc M1.out _) hb2); have N2 := Aside0.mk (is_below (is_alloc M2.out _) hb2); have d0 : w2.cell? ⟨wr.heap.size, 0, none⟩ = some (.int .i64 x.f0) := (blk_cell BX.out 0).trans rfl; have d1 : w2.cell? ⟨wr.heap.size, 1, none⟩ = some (.int .u16 x.f1) := (blk_cell BX.out 1).trans rfl; have d2 : w2.cell? ⟨wr.heap.size, 2, none⟩ = some (.int .u32 x.f2) := (blk_cell BX.out 2).trans rfl; have d3 : w2.cell? ⟨wr.heap.size, 3, none⟩ = some (.int .i64 x.f3) := (blk_cell BX.out 3).trans rfl; have d4 : w2.cell? ⟨wr.heap.size, 4, none⟩ = some (.int .i64 x.f4) := (blk_cell BX.out 4).trans rfl; clear hb2) | (at_lookup; refine MapI.wp_get rfl _ _ rfl rfl N2.out x.f3 rfl W3.out ?_; rw [SN.out]) | (at_mapUpdate; refine MapI.wp_set rfl _ _ _ rfl rfl N2.out (by unfold maxLen; omega) x.f3 (sn + 1) rfl rfl W3.out WS.out ?_; intro w3 hi hg; have P2 := Aside0.mk hi; have P1 := Aside0.mk (N1.out.kept hg (by intro h; injection h with h; exact NE.out h)); have BY := Aside0.mk (blk_grown BX.out hg (by intro h; injection h with h; exact NF.out h)); have HB3 := Aside0.mk (HB2.out.grown hg HB2.out.size (fun j hj => by cases hj; exact HS1.out)); have d0 : w3.cell? ⟨wr.heap.size, 0, none⟩ = some (.int .i64 x.f0) := (blk_cell BY.out 0).trans rfl; have d1 : w3.cell? ⟨wr.heap.size, 1, none⟩ = some (.int .u16 x.f1) := (blk_cell BY.out 1).trans rfl; have d2 : w3.cell? ⟨wr.heap.size, 2, none⟩ = some (.int .u32 x.f2) := (blk_cell BY.out 2).trans rfl; have d3 : w3.cell? ⟨wr.heap.size, 3, none⟩ = some (.int .i64 x.f3) := (blk_cell BY.out 3).trans rfl; have d4 : w3.cell? ⟨wr.heap.size, 4, none⟩ = some (.int .i64 x.f4) := (blk_cell BY.out 4).trans rfl; clear hi hg N1 N2) | (at_lookup; refine MapI.wp_get rfl _ _ rfl rfl P2.out x.f3 rfl W3.out ?_; rw [upd_self]) | (go_at_call 88; (with_reducible refine (HT.out x _).mono ?_); rintro e w4 ⟨v0, rfl, hR, hb4⟩; obtain ⟨A4, c4', rfl, hl4, hC4⟩ := Kd.R_reads hR; have T1 := Aside0.mk (is_below P1.out hb4); have T2 := Aside0.mk (is_below (HU.out ▸ P2.out) hb4); have TB := Aside0.mk (below_step HB3.out hb4); have TC := Aside0.mk hC4; clear hR hb4 hC4))
            go_loop [52] (fun i => ∃ m : Nat, m ≤ (targetsL x).length ∧ i = .int .i64 m ∧ Aside0 (∀ j, j < m → lost l k ((targetsL x).getD j 0) = false)) (fun i => (targetsL x).length - (intOf i).toNat)
            case atStart => exact ⟨0, Nat.zero_le _, rfl, Aside0.mk fun j hj => absurd hj (Nat.not_lt_zero _)⟩
            case round =>
              obtain ⟨m, hm, rfl, HL⟩ := hrel
              have hT2 : (targetsL x).length ≤ 2 := by unfold targetsL; split; simp; split <;> simp
              by_cases hml : m < (targetsL x).length
              · obtain ⟨ad2, rfl, e0⟩ := cell_i64 TC.out m hml
                have WT := Aside0.mk (target_wf W3.out W4.out m)
                obtain ⟨t, ht⟩ : ∃ t, (targetsL x).getD m 0 = t := ⟨_, rfl⟩
                obtain ⟨ok, hok⟩ : ∃ b, (lastM l l.length t).isSome = b := ⟨_, rfl⟩
                obtain ⟨pl, hpl⟩ : ∃ b, (lastM l l.length t).getD 0 = b := ⟨_, rfl⟩
                rw [ht] at e0
                have HTT := Aside0.mk ht
                have HOK := Aside0.mk hok
                have HPL := Aside0.mk hpl
                clear ht hok hpl
                have bad : lost l k t = true → Aside0 (chk l = ((k : Int), 15)) := fun hb => Aside0.mk (chk_at (v := 15) hl hlt HZ.out (by rw [HS.out, if_pos (any_true hml (by rw [HTT.out]; exact hb))]) (by decide))
                cases ok with
                | false =>
                  have HV := bad (by unfold lost; rw [HOK.out]; rfl)
                  clear bad
                  go_wp2_with (at_lookup; refine MapI.wp_get_ok rfl _ _ rfl rfl T1.out t rfl (by have := WT.out; rw [HTT.out] at this; exact this) ?_; rw [HOK.out, HPL.out])
                  go_ret2
                  exact ⟨ret_two (by rw [HR1.out, HV.out]) (by rw [HR2.out, HV.out]), TB.out⟩
                | true =>
                  by_cases hp : pl < (k : Int)
                  · have HV := bad (by unfold lost; rw [HOK.out, HPL.out, decide_eq_true hp]; rfl)
                    have hp' : decide (pl < (k : Int)) = true := decide_eq_true hp
                    clear bad hp
                    go_wp2_with (at_lookup; refine MapI.wp_get_ok rfl _ _ rfl rfl T1.out t rfl (by have := WT.out; rw [HTT.out] at this; exact this) ?_; rw [HOK.out, HPL.out])
                    go_ret2
                    exact ⟨ret_two (by rw [HR1.out, HV.out]) (by rw [HR2.out, HV.out]), TB.out⟩
                  · have HG := Aside0.mk (show lost l k t = false by unfold lost; rw [HOK.out, HPL.out, decide_eq_false hp]; rfl)
                    have hp' : decide (pl < (k : Int)) = false := decide_eq_false hp
                    clear bad hp
                    go_wp2_with (at_lookup; refine MapI.wp_get_ok rfl _ _ rfl rfl T1.out t rfl (by have := WT.out; rw [HTT.out] at this; exact this) ?_; rw [HOK.out, HPL.out])
                    go_round
                    case rel => exact ⟨m + 1, by omega, by go_num, Aside0.mk fun j hj => by
                      by_cases e : j = m
                      · rw [e, HTT.out]; exact HG.out
                      · exact HL.out j (by omega)⟩
                    case measure => simp [intOf]; omega
              · have e : m = (targetsL x).length := by omega
                have HZ2 := Aside0.mk (show stepE l k = 0 by rw [HS.out, if_neg (by rw [any_false (fun j hj => HL.out j (by omega))]; decide)])
                clear HL
                subst e
                go_wp2
                go_roundw
                case rel => exact ⟨k + 1, by omega, by go_num, T1.out, T2.out, TB.out, fun j hj => by
                  by_cases e : j = k
                  · rw [e]; exact HZ2.out
                  · exact HZ.out j (by omega)⟩
                case measure => simp [intOf]; omega

        · have HS := Aside0.mk (show stepE l k = if (targetsL x).any (lost l k) = true then 15 else 0 from by unfold stepE; rw [HX.out, if_neg (by rw [HE.out]; decide), if_neg (fun h => h4 h.1)])
          have HU := Aside0.mk (show seenM l (k + 1) = seenM l k from by rw [seenM, HX.out, if_neg h4])
          have t4 : (x.f0 == 4) = false := beq_eq_false_iff_ne.2 h4
          clear h4
          go_wp2_with (first | (go_at_call 87; (with_reducible refine (HF.out x _).mono ?_); rintro e w2 ⟨rfl, hb2⟩; have t5 := HE.out; have HB2 := Aside0.mk (below_step (below_alloc HB.out _) hb2); have BX := Aside0.mk (after_box hb2); have N1 := Aside0.mk (is_below (is_alloc M1.out _) hb2); have N2 := Aside0.mk (is_below (is_alloc M2.out _) hb2); have d0 : w2.cell? ⟨wr.heap.size, 0, none⟩ = some (.int .i64 x.f0) := (blk_cell BX.out 0).trans rfl; have d1 : w2.cell? ⟨wr.heap.size, 1, none⟩ = some (.int .u16 x.f1) := (blk_cell BX.out 1).trans rfl; have d2 : w2.cell? ⟨wr.heap.size, 2, none⟩ = some (.int .u32 x.f2) := (blk_cell BX.out 2).trans rfl; have d3 : w2.cell? ⟨wr.heap.size, 3, none⟩ = some (.int .i64 x.f3) := (blk_cell BX.out 3).trans rfl; have d4 : w2.cell? ⟨wr.heap.size, 4, none⟩ = some (.int .i64 x.f4) := (blk_cell BX.out 4).trans rfl; clear hb2) | (go_at_call 88; (with_reducible refine (HT.out x _).mono ?_); rintro e w4 ⟨v0, rfl, hR, hb4⟩; obtain ⟨A4, c4', rfl, hl4, hC4⟩ := Kd.R_reads hR; have T1 := Aside0.mk (is_below N1.out hb4); have T2 := Aside0.mk (is_below ((HU.out ▸ N2.out : Is w2 w1.heap.size k (seenM l (k + 1))).mono (Nat.le_succ k)) hb4); have TB := Aside0.mk (below_step HB2.out hb4); have TC := Aside0.mk hC4; clear hR hb4 hC4))
          go_loop [52] (fun i => ∃ m : Nat, m ≤ (targetsL x).length ∧ i = .int .i64 m ∧ Aside0 (∀ j, j < m → lost l k ((targetsL x).getD j 0) = false)) (fun i => (targetsL x).length - (intOf i).toNat)
          case atStart => exact ⟨0, Nat.zero_le _, rfl, Aside0.mk fun j hj => absurd hj (Nat.not_lt_zero _)⟩
          case round =>
            obtain ⟨m, hm, rfl, HL⟩ := hrel
            have hT2 : (targetsL x).length ≤ 2 := by unfold targetsL; split; simp; split <;> simp
            by_cases hml : m < (targetsL x).length
            · obtain ⟨ad2, rfl, e0⟩ := cell_i64 TC.out m hml
              have WT := Aside0.mk (target_wf W3.out W4.out m)
              obtain ⟨t, ht⟩ : ∃ t, (targetsL x).getD m 0 = t := ⟨_, rfl⟩
              obtain ⟨ok, hok⟩ : ∃ b, (lastM l l.length t).isSome = b := ⟨_, rfl⟩
              obtain ⟨pl, hpl⟩ : ∃ b, (lastM l l.length t).getD 0 = b := ⟨_, rfl⟩
              rw [ht] at e0
              have HTT := Aside0.mk ht
              have HOK := Aside0.mk hok
              have HPL := Aside0.mk hpl
              clear ht hok hpl
              have bad : lost l k t = true → Aside0 (chk l = ((k : Int), 15)) := fun hb => Aside0.mk (chk_at (v := 15) hl hlt HZ.out (by rw [HS.out, if_pos (any_true hml (by rw [HTT.out]; exact hb))]) (by decide))
              cases ok with
              | false =>
                have HV := bad (by unfold lost; rw [HOK.out]; rfl)
                clear bad
                go_wp2_with (at_lookup; refine MapI.wp_get_ok rfl _ _ rfl rfl T1.out t rfl (by have := WT.out; rw [HTT.out] at this; exact this) ?_; rw [HOK.out, HPL.out])
                go_ret2
                exact ⟨ret_two (by rw [HR1.out, HV.out]) (by rw [HR2.out, HV.out]), TB.out⟩
              | true =>
                by_cases hp : pl < (k : Int)
                · have HV := bad (by unfold lost; rw [HOK.out, HPL.out, decide_eq_true hp]; rfl)
                  have hp' : decide (pl < (k : Int)) = true := decide_eq_true hp
                  clear bad hp
                  go_wp2_with (at_lookup; refine MapI.wp_get_ok rfl _ _ rfl rfl T1.out t rfl (by have := WT.out; rw [HTT.out] at this; exact this) ?_; rw [HOK.out, HPL.out])
                  go_ret2
                  exact ⟨ret_two (by rw [HR1.out, HV.out]) (by rw [HR2.out, HV.out]), TB.out⟩
                · have HG := Aside0.mk (show lost l k t = false by unfold lost; rw [HOK.out, HPL.out, decide_eq_false hp]; rfl)
                  have hp' : decide (pl < (k : Int)) = false := decide_eq_false hp
                  clear bad hp
                  go_wp2_with (at_lookup; refine MapI.wp_get_ok rfl _ _ rfl rfl T1.out t rfl (by have := WT.out; rw [HTT.out] at this; exact this) ?_; rw [HOK.out, HPL.out])
                  go_round
                  case rel => exact ⟨m + 1, by omega, by go_num, Aside0.mk fun j hj => by
                    by_cases e : j = m
                    · rw [e, HTT.out]; exact HG.out
                    · exact HL.out j (by omega)⟩
                  case measure => simp [intOf]; omega
            · have e : m = (targetsL x).length := by omega
              have HZ2 := Aside0.mk (show stepE l k = 0 by rw [HS.out, if_neg (by rw [any_false (fun j hj => HL.out j (by omega))]; decide)])
              clear HL
              subst e
              go_wp2
              go_roundw
              case rel => exact ⟨k + 1, by omega, by go_num, T1.out, T2.out, TB.out, fun j hj => by
                by_cases e : j = k
                · rw [e]; exact HZ2.out
                · exact HZ.out j (by omega)⟩
              case measure => simp [intOf]; omega

    · have e : k = l.length := by omega
      subst e
      have HE := Aside0.mk (chk_end h0 hl HZ.out)
      obtain ⟨ad, rfl, c0, _⟩ := at_T40 (Kd.C_below HR.out HB.out) ((l.length - 1 : Nat) : Int) (by omega) (by omega)
      have ex : rd_T40 l ((l.length - 1 : Nat) : Int) = at_ l (l.length - 1) := rfl
      rw [ex, Int.toNat_natCast] at c0
      obtain ⟨x, hx⟩ : ∃ x, at_ l (l.length - 1) = x := ⟨_, rfl⟩
      rw [hx] at c0
      have HX := Aside0.mk hx
      obtain ⟨n1, hn1⟩ : ∃ n, n = l.length - 1 := ⟨_, rfl⟩
      have HN1 := Aside0.mk hn1
      rw [← hn1] at c0
      have q0 : IntKind.i64.wrap ((l.length : Int) - 1) = (n1 : Int) := by rw [IntWalk.i64_in _ (by omega)]; omega
      have q1 : (n1 : Int) < (l.length : Int) := by omega
      have q2 : n1 < l.length := by omega
      clear hx ex hn1
      by_cases h1 : x.f0 = 1
      · have t4 : (x.f0 != 1) = false := bne_eq_false_iff_eq.2 h1
        have HV := Aside0.mk (show chk l = (0, 0) from by rw [HE.out, HX.out, if_pos h1])
        clear h1
        go_wp2
        go_ret2
        exact ⟨ret_two (by rw [HR1.out, HV.out]) (by rw [HR2.out, HV.out]), HB.out⟩
      · have t4 : (x.f0 != 1) = true := bne_iff_ne.2 h1
        have HV := Aside0.mk (show chk l = ((n1 : Int), 12) from by rw [HE.out, HX.out, if_neg h1, HN1.out])
        clear h1
        go_wp2
        go_ret2
        exact ⟨ret_two (by rw [HR1.out, HV.out]) (by rw [HR2.out, HV.out]), HB.out⟩
end Go.Proofs.Ytmjpibeiglicdaa.EmitB
