/- emit: the layout of items that may be. -/
import Derived.Test.YtmjpibeiglicdaaEmitE
import Derived.Deep.RegionWith
namespace Go.Proofs.Ytmjpibeiglicdaa.EmitB
open Go.RowKit Go.Proofs.Ytmjpibeiglicdaa.E Go.Proofs.YtmjpibeiglicdaaU.PrintWords Go.Proofs.YtmjpibeiglicdaaU.PrintLast Go.Proofs.YtmjpibeiglicdaaU.PrintMore
open Go.Proofs.Ytmjpibeiglicdaa.MapI (wf upd Is)
set_option linter.unusedVariables false
set_option linter.unusedSimpArgs false

theorem make58 (n : Nat) (hn : n ≤ 65536) : ∃ P0 : Array Value, (∀ W : World, (Instr.makeSlice 58 (.int .i64 (n : Int)) (.int .i64 (n : Int))).run Try.prog W = .ok (.slice (some ⟨W.heap.size, 0, none⟩) n n) (W.alloc (.cells P0 3))) ∧
    ∀ (W : World) (base g : Nat), base ≤ W.heap.size → g = W.heap.size → Kd.R (Kd.int .i64) 3 (W.alloc (.cells P0 3)) base (fun _ => True) (.slice (some ⟨g, 0, none⟩) n n) (List.replicate n (0 : Int)) := by
  obtain ⟨i0, hi, hz0, hz1, hz2⟩ := info_parts info3
  refine ⟨madeCells #[.int .i64 0] (n * 1), fun W => ?_, fun W base g hb hg => ?_⟩
  · have hr := run_make (P := Try.prog) W 58 3 i0 (.int .i64 0) Try.underlying58 hi hz0 .i64 .i64 (n : Int) (n : Int) (by omega) (by omega) (by rw [hz2]; omega) (by omega)
    rw [hz1, Int.toNat_natCast] at hr
    exact hr
  · subst hg
    have ho := own_made_of (enc := Value.int .i64) (d := (0 : Int)) W base 3 n hb (by omega)
    rw [Nat.mul_one]
    exact Kd.R_of_own (enc := Value.int .i64) (by rw [List.length_replicate]; exact ho) (fun _ _ => trivial)
theorem make54 (n : Nat) (hn : n ≤ 65536) : ∃ P0 : Array Value, (∀ W : World, (Instr.makeSlice 54 (.int .i64 (n : Int)) (.int .i64 (n : Int))).run Try.prog W = .ok (.slice (some ⟨W.heap.size, 0, none⟩) n n) (W.alloc (.cells P0 4))) ∧
    ∀ (W : World) (base g : Nat), base ≤ W.heap.size → g = W.heap.size → Kd.R Kd.bool 4 (W.alloc (.cells P0 4)) base (fun _ => True) (.slice (some ⟨g, 0, none⟩) n n) (List.replicate n false) := by
  obtain ⟨i0, hi, hz0, hz1, hz2⟩ := info_parts info4
  refine ⟨madeCells #[.bool false] (n * 1), fun W => ?_, fun W base g hb hg => ?_⟩
  · have hr := run_make (P := Try.prog) W 54 4 i0 (.bool false) Try.underlying54 hi hz0 .i64 .i64 (n : Int) (n : Int) (by omega) (by omega) (by rw [hz2]; omega) (by omega)
    rw [hz1, Int.toNat_natCast] at hr
    exact hr
  · subst hg
    have ho := own_made_of (enc := Value.bool) (d := false) W base 4 n hb (by omega)
    rw [Nat.mul_one]
    exact Kd.R_of_own (enc := Value.bool) (by rw [List.length_replicate]; exact ho) (fun _ _ => trivial)

/-- The rounds: questions that are too far become long until none is. -/
def roundF (l : List S40) : Nat → List Bool → Option (List Bool)
  | 0, _ => none
  | k + 1, ls => if moreF l (places l ls) ls l.length = true then roundF l k (growF l (places l ls) ls l.length) else some ls
theorem round_mono (l : List S40) : ∀ k ls, LeO (roundF l k ls) (roundF l (k + 1) ls)
  | 0, ls => LeO.none _
  | k + 1, ls => by
    rw [roundF, roundF]
    split
    · exact round_mono l k _
    · exact LeO.refl _
theorem grow_same (l : List S40) (ps : List Int) (ls : List Bool) : ∀ i, moreF l ps ls i = false → growF l ps ls i = ls
  | 0, _ => rfl
  | i + 1, h => by
    rw [moreF, Bool.or_eq_false_iff] at h
    rw [growF, if_neg (by rw [h.2]; decide)]
    exact grow_same l ps ls i h.1
theorem places_small (l : List S40) (ls : List Bool) (hl : l.length ≤ 65536) : Small (places l ls) := by
  intro j
  by_cases c : j < l.length
  · have e : (places l ls).getD j 0 = placeAt l ls j := by
      unfold places
      rw [List.getD_eq_getElem?_getD, List.getElem?_map, List.getElem?_range c]; rfl
    have := place_range l ls j
    rw [e]; omega
  · have e : (places l ls).getD j 0 = 0 := by
      unfold places
      rw [List.getD_eq_getElem?_getD, List.getElem?_eq_none (by simpa using c)]; rfl
    rw [e]; omega

theorem st_at {W : World} {o : Obj} {B : Nat} (h : B = W.heap.size) : (W.alloc o).heap[B]? = some o := by subst h; exact heap_alloc_new W o
set_option maxHeartbeats 8000000 in
set_option maxRecDepth 100000 in
theorem laid_calls (k : Nat) (A : Option Addr) (c : Nat) (l : List S40) (ls : List Bool) (w : World) (hr : Kd.C k40 w A l.length l) (hw : WfI l) (h0 : 0 < l.length) (hl : l.length ≤ 65536) (h : roundF l k (List.replicate l.length false) = some ls) :
    Calls Try.prog 89 #[.slice A l.length c] w fun e w' => ∃ b : Blk, e = .returned (.pointer (some ⟨b.B, 0, none⟩)) ∧ Lay w w' b A c l (places l ls) ls (placeAt l ls l.length) := by
  obtain ⟨P3, run3, own3⟩ := make58 l.length hl
  obtain ⟨P4, run4, own4⟩ := make54 l.length hl
  have HR := Aside0.mk hr
  have HW := Aside0.mk hw
  have HH := Aside0.mk h
  have O3 := Aside0.mk own3
  have O4 := Aside0.mk own4
  have HM := Aside0.mk (fun (W : World) (hb : Below w.heap.size w W) => marks_calls A c l W (Kd.C_below hr hb) hw hl)
  clear hr hw h own3 own4
  go_enter Try.func89, Try.ntmps89
  go_upto_region 1 with fail
  go_cut [3] (fun v3 wc => ∃ b : Blk, v3 = .pointer (some ⟨b.B, 0, none⟩) ∧ Lay w wc b A c l (List.replicate l.length 0) (List.replicate l.length false) 0)
  case first =>
    go_region_with (go_at_call 86; refine (HM.out _ ?hbm).mono ?_; (case hbm => repeat (first | exact Below.refl _ _ | apply below_alloc | apply below_drew1)); rintro e w1 ⟨b1, rfl, hb1, hi1, hbel1⟩)
    · go_wp2_with fail
      go_meet
      have hsz : w.heap.size ≤ w1.heap.size := by have := hbel1.size; simp at this; omega
      refine ⟨⟨w1.heap.size + 1 + 1, b1, w1.heap.size, w1.heap.size + 1, l.length, l.length⟩, rfl, ⟨st_at (by simp), (by simp; try omega), ?_, List.length_replicate, ?_, List.length_replicate, ?_, ?_⟩⟩
      · (with_reducible repeat (first | refine O3.out _ _ _ ?sa ?sb | apply Kd.R_alloc | refine Kd.R_below ?_ hbel1 | apply Kd.R_drew)); (case sa => first | omega | (simp; done) | (simp; omega)); (case sb => first | rfl | simp)
      · (with_reducible repeat (first | refine O4.out _ _ _ ?sa ?sb | apply Kd.R_alloc | refine Kd.R_below ?_ hbel1 | apply Kd.R_drew)); (case sa => first | omega | (simp; done) | (simp; omega)); (case sb => first | rfl | simp)
      · with_reducible repeat (first | exact hi1 | apply is_alloc)
      · with_reducible repeat (first | exact Below.refl _ _ | apply below_alloc | apply below_drew1 | refine below_step ?_ hbel1)
    · go_wp2_with fail
      go_meet
      have hsz : w.heap.size ≤ w1.heap.size := by have := hbel1.size; simp at this; omega
      refine ⟨⟨w1.heap.size + 1 + 1, b1, w1.heap.size + 1, w1.heap.size, l.length, l.length⟩, rfl, ⟨st_at (by simp), (by simp; try omega), ?_, List.length_replicate, ?_, List.length_replicate, ?_, ?_⟩⟩
      · (with_reducible repeat (first | refine O3.out _ _ _ ?sa ?sb | apply Kd.R_alloc | refine Kd.R_below ?_ hbel1 | apply Kd.R_drew)); (case sa => first | omega | (simp; done) | (simp; omega)); (case sb => first | rfl | simp)
      · (with_reducible repeat (first | refine O4.out _ _ _ ?sa ?sb | apply Kd.R_alloc | refine Kd.R_below ?_ hbel1 | apply Kd.R_drew)); (case sa => first | omega | (simp; done) | (simp; omega)); (case sb => first | rfl | simp)
      · with_reducible repeat (first | exact hi1 | apply is_alloc)
      · with_reducible repeat (first | exact Below.refl _ _ | apply below_alloc | apply below_drew1 | refine below_step ?_ hbel1)
    · go_wp2_with fail
      go_meet
      have hsz : w.heap.size ≤ w1.heap.size := by have := hbel1.size; simp at this; omega
      refine ⟨⟨w1.heap.size + 1, b1, w.heap.size, w1.heap.size, l.length, l.length⟩, rfl, ⟨st_at (by simp), (by simp; try omega), ?_, List.length_replicate, ?_, List.length_replicate, ?_, ?_⟩⟩
      · (with_reducible repeat (first | refine O3.out _ _ _ ?sa ?sb | apply Kd.R_alloc | refine Kd.R_below ?_ hbel1 | apply Kd.R_drew)); (case sa => first | omega | (simp; done) | (simp; omega)); (case sb => first | rfl | simp)
      · (with_reducible repeat (first | refine O4.out _ _ _ ?sa ?sb | apply Kd.R_alloc | refine Kd.R_below ?_ hbel1 | apply Kd.R_drew)); (case sa => first | omega | (simp; done) | (simp; omega)); (case sb => first | rfl | simp)
      · with_reducible repeat (first | exact hi1 | apply is_alloc)
      · with_reducible repeat (first | exact Below.refl _ _ | apply below_alloc | apply below_drew1 | refine below_step ?_ hbel1)
    · go_wp2_with fail
      go_meet
      have hsz : w.heap.size ≤ w1.heap.size := by have := hbel1.size; simp at this; omega
      refine ⟨⟨w1.heap.size, b1, w.heap.size, w.heap.size + 1, l.length, l.length⟩, rfl, ⟨st_at (by simp), (by simp; try omega), ?_, List.length_replicate, ?_, List.length_replicate, ?_, ?_⟩⟩
      · (with_reducible repeat (first | refine O3.out _ _ _ ?sa ?sb | apply Kd.R_alloc | refine Kd.R_below ?_ hbel1 | apply Kd.R_drew)); (case sa => first | omega | (simp; done) | (simp; omega)); (case sb => first | rfl | simp)
      · (with_reducible repeat (first | refine O4.out _ _ _ ?sa ?sb | apply Kd.R_alloc | refine Kd.R_below ?_ hbel1 | apply Kd.R_drew)); (case sa => first | omega | (simp; done) | (simp; omega)); (case sb => first | rfl | simp)
      · with_reducible repeat (first | exact hi1 | apply is_alloc)
      · with_reducible repeat (first | exact Below.refl _ _ | apply below_alloc | apply below_drew1 | refine below_step ?_ hbel1)
    · go_wp2_with fail
      go_meet
      have hsz : w.heap.size ≤ w1.heap.size := by have := hbel1.size; simp at this; omega
      refine ⟨⟨w1.heap.size + 1, b1, w1.heap.size, w.heap.size, l.length, l.length⟩, rfl, ⟨st_at (by simp), (by simp; try omega), ?_, List.length_replicate, ?_, List.length_replicate, ?_, ?_⟩⟩
      · (with_reducible repeat (first | refine O3.out _ _ _ ?sa ?sb | apply Kd.R_alloc | refine Kd.R_below ?_ hbel1 | apply Kd.R_drew)); (case sa => first | omega | (simp; done) | (simp; omega)); (case sb => first | rfl | simp)
      · (with_reducible repeat (first | refine O4.out _ _ _ ?sa ?sb | apply Kd.R_alloc | refine Kd.R_below ?_ hbel1 | apply Kd.R_drew)); (case sa => first | omega | (simp; done) | (simp; omega)); (case sb => first | rfl | simp)
      · with_reducible repeat (first | exact hi1 | apply is_alloc)
      · with_reducible repeat (first | exact Below.refl _ _ | apply below_alloc | apply below_drew1 | refine below_step ?_ hbel1)
    · go_wp2_with fail
      go_meet
      have hsz : w.heap.size ≤ w1.heap.size := by have := hbel1.size; simp at this; omega
      refine ⟨⟨w1.heap.size, b1, w.heap.size + 1, w.heap.size, l.length, l.length⟩, rfl, ⟨st_at (by simp), (by simp; try omega), ?_, List.length_replicate, ?_, List.length_replicate, ?_, ?_⟩⟩
      · (with_reducible repeat (first | refine O3.out _ _ _ ?sa ?sb | apply Kd.R_alloc | refine Kd.R_below ?_ hbel1 | apply Kd.R_drew)); (case sa => first | omega | (simp; done) | (simp; omega)); (case sb => first | rfl | simp)
      · (with_reducible repeat (first | refine O4.out _ _ _ ?sa ?sb | apply Kd.R_alloc | refine Kd.R_below ?_ hbel1 | apply Kd.R_drew)); (case sa => first | omega | (simp; done) | (simp; omega)); (case sb => first | rfl | simp)
      · with_reducible repeat (first | exact hi1 | apply is_alloc)
      · with_reducible repeat (first | exact Below.refl _ _ | apply below_alloc | apply below_drew1 | refine below_step ?_ hbel1)
  case rest =>
    obtain ⟨b, rfl, hlay⟩ := hcut
    have L := Aside0.mk hlay
    clear hlay
    go_wp2_with (go_at_call 107; (with_reducible refine (lay_calls w _ b A c l _ _ _ HR.out L.out hl).mono ?_); rintro e w2 ⟨rfl, hlay⟩; have L2 := Aside0.mk hlay; clear hlay L)
    go_loopg [] k (fun kq wr => ∃ ls' : List Bool, Aside0 (Lay w wr b A c l (places l ls') ls' (placeAt l ls' l.length)) ∧ Aside0 (roundF l kq ls' = some ls))
    case atStart => exact ⟨_, L2, HH⟩
    case round =>
      obtain ⟨ls', L, HQ⟩ := hrel
      cases gk with
      | zero => exact absurd HQ.out (by simp [roundF])
      | succ gk =>
        have hq := HQ.out
        rw [roundF] at hq
        have G := Aside0.mk (grow_calls w wr b A c l _ _ _ HR.out L.out HW.out (places_small l ls' hl) hl)
        by_cases hm : moreF l (places l ls') ls' l.length = true
        · rw [if_pos hm] at hq
          rw [hm] at G
          have HQ2 := Aside0.mk hq
          clear hq hm HQ
          go_wp2_with (first | (go_at_call 108; (with_reducible refine G.out.mono ?_); rintro e w3 ⟨rfl, hlay⟩; have L3 := Aside0.mk hlay; clear hlay) | (go_at_call 107; (with_reducible refine (lay_calls w _ b A c l _ _ _ HR.out L3.out hl).mono ?_); rintro e w4 ⟨rfl, hlay⟩; have L4 := Aside0.mk hlay; clear hlay))
          go_roundg gk
          case measure => omega
          case rel => exact ⟨_, L4, HQ2⟩
        · rw [if_neg hm] at hq
          have hm' : moreF l (places l ls') ls' l.length = false := Bool.eq_false_iff.2 hm
          rw [hm', grow_same _ _ _ _ hm'] at G
          obtain rfl := Option.some.inj hq
          clear hm hm' HQ
          go_wp2_with (go_at_call 108; (with_reducible refine G.out.mono ?_); rintro e w3 ⟨rfl, hlay⟩; have L3 := Aside0.mk hlay; clear hlay)
          go_ret
          exact ⟨b, rfl, L3.out⟩
end Go.Proofs.Ytmjpibeiglicdaa.EmitB
