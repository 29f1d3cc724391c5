/- emit: how far a label is; which questions are long. -/
import Derived.Test.YtmjpibeiglicdaaEmitD
namespace Go.Proofs.Ytmjpibeiglicdaa.EmitB
open Go.RowKit Go.Proofs.Ytmjpibeiglicdaa.E Go.Proofs.YtmjpibeiglicdaaU.PrintWords Go.Proofs.YtmjpibeiglicdaaU.PrintLast Go.Proofs.YtmjpibeiglicdaaU.PrintMore
open Go.Proofs.Ytmjpibeiglicdaa.MapI (wf upd Is)
set_option linter.unusedVariables false
attribute [local go_sem] max2_int min2_int max_two min_two
set_option linter.unusedSimpArgs false

/-- Where a label is marked for the last time (0: nowhere). -/
def lastP (l : List S40) (t : Int) : Nat := ((lastM l l.length t).getD 0).toNat
theorem last_range (l : List S40) (t : Int) : ∀ i : Nat, 0 ≤ (lastM l i t).getD 0 ∧ ((lastM l i t).getD 0 < (i : Int) ∨ (lastM l i t).getD 0 = 0)
  | 0 => ⟨Int.le_refl _, .inr rfl⟩
  | i + 1 => by
    have a := last_range l t i
    rw [lastM]
    by_cases c : (at_ l i).f0 = 4
    · rw [if_pos c]
      unfold upd
      by_cases e : t = (at_ l i).f3
      · rw [if_pos e, Option.getD_some]; omega
      · rw [if_neg e]; omega
    · rw [if_neg c]; omega
theorem last_p (l : List S40) (t : Int) (h0 : 0 < l.length) : (lastM l l.length t).getD 0 = (lastP l t : Int) ∧ lastP l t < l.length := by
  have := last_range l t l.length
  unfold lastP
  omega
/-- From behind an item to a label. -/
def farF (l : List S40) (ps : List Int) (i : Nat) (t : Int) : Int := ps.getD (lastP l t) 0 - ps.getD i 0 - 1
/-- Places that there may be. -/
def Small (ps : List Int) : Prop := ∀ j, 0 ≤ ps.getD j 0 ∧ ps.getD j 0 ≤ 300000

set_option maxHeartbeats 8000000 in
set_option maxRecDepth 100000 in
theorem far_calls (w0 w : World) (b : Blk) (A : Option Addr) (c : Nat) (l : List S40) (ps : List Int) (ls : List Bool) (sz : Int) (h : Lay w0 w b A c l ps ls sz) (hs : Small ps) (i : Nat) (hi : i < l.length) (t : Int) (ht : wf t) :
    Calls Try.prog 109 #[.pointer (some ⟨b.B, 0, none⟩), .int .i64 i, .int .i64 t] w fun e w' => e = .returned (.int .i64 (farF l ps i t)) ∧ ∃ n, w' = w.drewN n := by
  obtain ⟨p1, p2⟩ := last_p l t (by omega)
  obtain ⟨p, hp⟩ : ∃ p, lastP l t = p := ⟨_, rfl⟩
  rw [hp] at p1 p2
  have hrun : ∀ n : Nat, (Instr.lookup 130 (.map (some b.m)) (.int .i64 t) false).run Try.prog (w.drewN n) = .ok (.int .i64 (p : Int)) (w.drewN n) := fun n => by
    have := (h.drewN n).mp.run t ht
    rwa [p1] at this
  have a1 := (h.place p p2).1
  have a2 := (h.place i hi).1
  obtain ⟨x, hx⟩ : ∃ x, ps.getD p 0 = x := ⟨_, rfl⟩
  obtain ⟨y, hy⟩ : ∃ y, ps.getD i 0 = y := ⟨_, rfl⟩
  obtain ⟨x0, x1⟩ := hs p
  obtain ⟨y0, y1⟩ := hs i
  rw [hx] at a1 x0 x1
  rw [hy] at a2 y0 y1
  have HF := Aside0.mk (show farF l ps i t = x - y - 1 by unfold farF; rw [hp, hx, hy])
  have k1 := h.c1
  have k2 := h.c2
  have q1 : (0 : Int) ≤ (p : Int) := by omega
  have q2 : (p : Int) < (l.length : Int) := by omega
  have q3 : (0 : Int) ≤ (i : Int) := by omega
  have q4 : (i : Int) < (l.length : Int) := by omega
  rw [HF.out]
  clear h hs ht hp hx hy p1
  go_enter Try.func109, Try.ntmps109
  go_wp2
  go_quiet (fail)
  go_wp2
  go_ret
  exact ⟨rfl, _, rfl⟩

/-! ### grow -/
/-- Is the question at i short, and too far from a label? -/
def tooFar (l : List S40) (ps : List Int) (ls : List Bool) (i : Nat) : Bool := decide ((at_ l i).f0 = 3) && (!ls.getD i false && (decide (farF l ps i (at_ l i).f3 > 255) || decide (farF l ps i (at_ l i).f4 > 255)))
/-- Which questions are long behind a round, of which the first i have been looked at. -/
def growF (l : List S40) (ps : List Int) (ls : List Bool) : Nat → List Bool
  | 0 => ls
  | i + 1 => if tooFar l ps ls i = true then (growF l ps ls i).set i true else growF l ps ls i
def moreF (l : List S40) (ps : List Int) (ls : List Bool) : Nat → Bool
  | 0 => false
  | i + 1 => moreF l ps ls i || tooFar l ps ls i
theorem grow_len (l : List S40) (ps : List Int) (ls : List Bool) : ∀ i, (growF l ps ls i).length = ls.length
  | 0 => rfl
  | i + 1 => by
    rw [growF]
    split
    · rw [List.length_set, grow_len l ps ls i]
    · exact grow_len l ps ls i
theorem grow_later (l : List S40) (ps : List Int) (ls : List Bool) (j : Nat) : ∀ i, i ≤ j → (growF l ps ls i).getD j false = ls.getD j false
  | 0, _ => rfl
  | i + 1, h => by
    have ih := grow_later l ps ls j i (by omega)
    rw [growF]
    split
    · rw [List.getD_eq_getElem?_getD, List.getElem?_set_ne (by omega), ← List.getD_eq_getElem?_getD]; exact ih
    · exact ih

set_option maxHeartbeats 8000000 in
set_option maxRecDepth 100000 in
theorem grow_calls (w0 w : World) (b : Blk) (A : Option Addr) (c : Nat) (l : List S40) (ps : List Int) (ls : List Bool) (sz : Int) (hr : Kd.C k40 w0 A l.length l) (h : Lay w0 w b A c l ps ls sz) (hw : WfI l) (hs : Small ps) (hl : l.length ≤ 65536) :
    Calls Try.prog 108 #[.pointer (some ⟨b.B, 0, none⟩)] w fun e w' => e = .returned (.bool (moreF l ps ls l.length)) ∧ Lay w0 w' b A c l ps (growF l ps ls l.length) sz := by
  have HR := Aside0.mk hr
  have H0 := Aside0.mk h
  have HW := Aside0.mk hw
  have HS := Aside0.mk hs
  have k0 := h.c0
  clear hr h hw hs
  go_enter Try.func108, Try.ntmps108
  go_wp2
  go_loopw [2, 10] (fun m i wr => ∃ k : Nat, k ≤ l.length ∧ i = .int .i64 k ∧ m = .bool (moreF l ps ls k) ∧ Lay w0 wr b A c l ps (growF l ps ls k) sz) (fun _ i _ => l.length - (intOf i).toNat)
  case atStart => exact ⟨0, Nat.zero_le _, rfl, rfl, H0.out⟩
  case round =>
    obtain ⟨k, hk, rfl, rfl, hlay⟩ := hrel
    have L := Aside0.mk hlay
    clear hlay
    by_cases hlt : k < l.length
    · obtain ⟨ad, rfl, c0, c1, c2, c3, c4⟩ := at_T40 (Kd.C_below HR.out L.out.bel) (k : Int) (by omega) (by omega)
      have ex : rd_T40 l (k : Int) = at_ l k := rfl
      rw [ex] at c0 c1 c2 c3 c4
      rw [Int.toNat_natCast] at c0 c1 c2 c3 c4
      obtain ⟨x, hx⟩ : ∃ x, at_ l k = x := ⟨_, rfl⟩
      rw [hx] at c0 c1 c2 c3 c4
      have HX := Aside0.mk hx
      have W3 := Aside0.mk (show wf x.f3 by rw [← hx]; exact (HW.out k).1)
      have W4 := Aside0.mk (show wf x.f4 by rw [← hx]; exact (HW.out k).2)
      clear hx ex
      have LB0 := Aside0.mk (L.out.alloc (.cells #[.int .i64 x.f0, .int .u16 x.f1, .int .u32 x.f2, .int .i64 x.f3, .int .i64 x.f4] 40))
      have BX0 := Aside0.mk (show (wr.alloc (.cells #[.int .i64 x.f0, .int .u16 x.f1, .int .u32 x.f2, .int .i64 x.f3, .int .i64 x.f4] 40)).heap[wr.heap.size]? = some (.cells #[.int .i64 x.f0, .int .u16 x.f1, .int .u32 x.f2, .int .i64 x.f3, .int .i64 x.f4] 40 (0, 0)) from heap_alloc_new wr _)
      go_wp2_with fail
      generalize (wr.alloc (.cells #[.int .i64 x.f0, .int .u16 x.f1, .int .u32 x.f2, .int .i64 x.f3, .int .i64 x.f4] 40)) = W2 at LB0 BX0 ⊢
      generalize wr.heap.size = gb at BX0 ⊢
      clear c0 c1 c2 c3 c4
      have e3 := LB0.out.c3
      obtain ⟨e6, f6⟩ := LB0.out.long k hlt
      rw [grow_later l ps ls k k (Nat.le_refl _)] at e6
      have d0 : W2.cell? ⟨gb, 0, none⟩ = some (.int .i64 x.f0) := (blk_cell BX0.out 0).trans rfl
      have d3 : W2.cell? ⟨gb, 3, none⟩ = some (.int .i64 x.f3) := (blk_cell BX0.out 3).trans rfl
      have d4 : W2.cell? ⟨gb, 4, none⟩ = some (.int .i64 x.f4) := (blk_cell BX0.out 4).trans rfl
      have q3 : (0 : Int) ≤ (k : Int) := by omega
      have q4 : (k : Int) < (l.length : Int) := by omega
      obtain ⟨m0, hm0⟩ : ∃ v, moreF l ps ls k = v := ⟨_, rfl⟩
      have HM := Aside0.mk hm0
      obtain ⟨lk, hlk⟩ : ∃ v, ls.getD k false = v := ⟨_, rfl⟩
      rw [hlk] at e6
      have HLK := Aside0.mk hlk
      rw [hm0]
      clear hm0 hlk
      have LAY := Aside0.mk (LB0.out.setLong k true)
      by_cases h3 : x.f0 = 3
      · have t3 : (x.f0 == 3) = true := beq_iff_eq.2 h3
        cases lk with
        | true =>
          have HT := Aside0.mk (show tooFar l ps ls k = false from by unfold tooFar; rw [HLK.out]; simp)
          clear h3
          go_quiet (fail)
          have LQ := fun n => Aside0.mk (LB0.out.drewN n)
          go_wp2
          go_roundw
          case rel => exact ⟨k + 1, by omega, by go_num, by rw [moreF, HM.out, HT.out, Bool.or_false], by rw [growF, if_neg (by rw [HT.out]; decide)]; exact (LQ _).out⟩
          case measure => simp [intOf]; omega
        | false =>
          obtain ⟨fy, hfy⟩ : ∃ v, farF l ps k x.f3 = v := ⟨_, rfl⟩
          obtain ⟨fn, hfn⟩ : ∃ v, farF l ps k x.f4 = v := ⟨_, rfl⟩
          have FY := Aside0.mk (show ∀ n : Nat, Calls Try.prog 109 #[.pointer (some ⟨b.B, 0, none⟩), .int .i64 k, .int .i64 x.f3] (W2.drewN n) fun e w' => e = .returned (.int .i64 fy) ∧ ∃ m, w' = (W2.drewN n).drewN m from fun n => by
            have := far_calls w0 (W2.drewN n) b (some ad) c l ps (growF l ps ls k) sz (LB0.out.drewN n) HS.out k hlt x.f3 W3.out
            rwa [hfy] at this)
          have FN := Aside0.mk (show ∀ n : Nat, Calls Try.prog 109 #[.pointer (some ⟨b.B, 0, none⟩), .int .i64 k, .int .i64 x.f4] (W2.drewN n) fun e w' => e = .returned (.int .i64 fn) ∧ ∃ m, w' = (W2.drewN n).drewN m from fun n => by
            have := far_calls w0 (W2.drewN n) b (some ad) c l ps (growF l ps ls k) sz (LB0.out.drewN n) HS.out k hlt x.f4 W4.out
            rwa [hfn] at this)
          have HT := Aside0.mk (show tooFar l ps ls k = (decide (fy > 255) || decide (fn > 255)) from by unfold tooFar; rw [HLK.out, HX.out, hfy, hfn, decide_eq_true h3]; simp)
          clear hfy hfn h3
          by_cases hbig : fy > 255 ∨ fn > 255
          · have t9 : decide (255 < if fy < fn then fn else fy) = true := decide_eq_true (by split <;> omega)
            have HT2 := Aside0.mk (show tooFar l ps ls k = true from by rw [HT.out]; rcases hbig with h | h <;> simp [h])
            clear hbig
            go_quiet (first | (go_at_call 109; with_reducible exact Calls.quiet_of (FY.out _)) | (go_at_call 109; with_reducible exact Calls.quiet_of (FN.out _)))
            have LQ := fun n => Aside0.mk (LB0.out.drewN n)
            have LS := fun n => Aside0.mk ((LB0.out.drewN n).setLong k true)
            have LR := fun n => Aside0.mk ((LB0.out.setLong k true).drewN n)
            go_wp2
            go_roundw
            case rel => exact ⟨k + 1, by omega, by go_num, by rw [moreF, HT2.out, Bool.or_true], by rw [growF, if_pos HT2.out]; first | exact (LS _).out | exact (LR _).out⟩
            case measure => simp [intOf]; omega
          · have t9 : decide (255 < if fy < fn then fn else fy) = false := decide_eq_false (by split <;> omega)
            have HT2 := Aside0.mk (show tooFar l ps ls k = false from by rw [HT.out, decide_eq_false (by omega), decide_eq_false (by omega)]; rfl)
            clear hbig
            go_quiet (first | (go_at_call 109; with_reducible exact Calls.quiet_of (FY.out _)) | (go_at_call 109; with_reducible exact Calls.quiet_of (FN.out _)))
            have LQ := fun n => Aside0.mk (LB0.out.drewN n)
            go_wp2
            go_roundw
            case rel => exact ⟨k + 1, by omega, by go_num, by rw [moreF, HM.out, HT2.out, Bool.or_false], by rw [growF, if_neg (by rw [HT2.out]; decide)]; exact (LQ _).out⟩
            case measure => simp [intOf]; omega
      · have t3 : (x.f0 == 3) = false := beq_eq_false_iff_ne.2 h3
        have HT := Aside0.mk (show tooFar l ps ls k = false from by unfold tooFar; rw [HX.out, decide_eq_false h3]; rfl)
        clear h3
        go_quiet (fail)
        have LQ := fun n => Aside0.mk (LB0.out.drewN n)
        go_wp2
        go_roundw
        case rel => exact ⟨k + 1, by omega, by go_num, by rw [moreF, HM.out, HT.out, Bool.or_false], by rw [growF, if_neg (by rw [HT.out]; decide)]; exact (LQ _).out⟩
        case measure => simp [intOf]; omega
    · have e : k = l.length := by omega
      subst e
      obtain ⟨m0, hm0⟩ : ∃ v, moreF l ps ls l.length = v := ⟨_, rfl⟩
      have HM := Aside0.mk hm0
      rw [hm0]
      clear hm0
      go_wp2
      go_ret
      exact ⟨by rw [HM.out]; rfl, L.out⟩
end Go.Proofs.Ytmjpibeiglicdaa.EmitB
