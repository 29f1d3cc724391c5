/- tree.Build: the builder's methods, and what they build: items one behind the other. -/
import Derived.Test.YtmjpibeiglicdaaT0
import Derived.IntWalk
import Derived.Outline
import Derived.StillTailTactics
namespace Go.Proofs.Ytmjpibeiglicdaa.TreeB
open Go.RowKit Go.Proofs.Ytmjpibeiglicdaa.T Go.Proofs.YtmjpibeiglicdaaV.PrintWords Go.Proofs.YtmjpibeiglicdaaV.PrintLast Go.Proofs.YtmjpibeiglicdaaV.PrintMore
set_option linter.unusedVariables false
set_option linter.unusedSimpArgs false

/-- The builder at block B: its items so far, the other label, the next one. -/
def Bld (w0 w : World) (B : Nat) (items : List S40) (other next : Int) : Prop :=
  ∃ v, w.heap[B]? = some (.cells #[v, .int .i64 other, .int .i64 next] 117 (0, 0)) ∧ w0.heap.size ≤ B ∧ Kd.R k40 40 w w0.heap.size (fun k => k ≠ B) v items ∧ Below w0.heap.size w0 w
/-- Rows that were boxed stay as they were. -/
def Keep (w w' : World) : Prop := ∀ (k : Nat) (cs : Array Value), w.heap[k]? = some (.cells cs 113 (0, 0)) → w'.heap[k]? = some (.cells cs 113 (0, 0))
theorem Keep.refl (w : World) : Keep w w := fun _ _ h => h
theorem Keep.trans {a b c : World} (h : Keep a b) (h' : Keep b c) : Keep a c := fun k cs e => h' k cs (h k cs e)
theorem Keep.of_set {w w1 : World} {B : Nat} {cs : Array Value} (hb : w.heap[B]? = some (.cells cs 117 (0, 0))) (h : ∀ k, k < w.heap.size → k ≠ B → (∀ cells, w.heap[k]? ≠ some (.cells cells 40 (0, 0))) → w1.heap[k]? = w.heap[k]?) : Keep w w1 := fun k cs' e => by
  refine (h k (blk_lt e) (fun e' => ?_) (fun cells e' => ?_)).trans e
  · rw [e', hb] at e; injection e with e; injection e with _ e; exact absurd e (by decide)
  · rw [e'] at e; injection e with e; injection e with _ e; exact absurd e (by decide)
theorem Keep.alloc (w : World) (o : Obj) : Keep w (w.alloc o) := fun k cs e => blk_alloc e o
theorem Bld.alloc {w0 w : World} {B : Nat} {items : List S40} {other next : Int} (h : Bld w0 w B items other next) (o : Obj) : Bld w0 (w.alloc o) B items other next := by
  obtain ⟨v, hb, hB, hR, hBel⟩ := h
  exact ⟨v, blk_alloc hb o, hB, Kd.R_alloc hR o, below_alloc hBel o⟩
theorem Bld.below {w0 w w1 : World} {B : Nat} {items : List S40} {other next : Int} (h : Bld w0 w B items other next) (hb : Below w.heap.size w w1) : Bld w0 w1 B items other next := by
  obtain ⟨v, hc, hB, hR, hBel⟩ := h
  exact ⟨v, (hb.block B (blk_lt hc)).trans hc, hB, Kd.R_below hR hb, below_step hBel hb⟩
theorem Bld.cell1 {w0 w : World} {B : Nat} {items : List S40} {other next : Int} (h : Bld w0 w B items other next) : w.cell? ⟨B, 1, none⟩ = some (.int .i64 other) := by
  obtain ⟨v, hb, _⟩ := h
  exact (blk_cell hb 1).trans rfl
theorem Keep.of_below {w w1 : World} (hb : Below w.heap.size w w1) : Keep w w1 := fun k cs e => (hb.block k (blk_lt e)).trans e
theorem Bld.drew {w0 w : World} {B : Nat} {items : List S40} {other next : Int} (h : Bld w0 w B items other next) : Bld w0 w.drew B items other next := by
  obtain ⟨v, hb, hB, hR, hBel⟩ := h
  exact ⟨v, hb, hB, Kd.R_drew hR, below_drew1 hBel⟩
theorem Bld.put {w0 w w1 : World} {B : Nat} {more : List S40} {other next : Int} {v v1 : Value} (hb : w.heap[B]? = some (.cells #[v, .int .i64 other, .int .i64 next] 117 (0, 0))) (hB : w0.heap.size ≤ B)
    (hR1 : Kd.R k40 40 w1 w0.heap.size (fun k => k ≠ B) v1 more) (hbel1 : Below w0.heap.size w0 w1) (hg : w.grownBy w1 v.ownBlock) (hne : some B ≠ v.ownBlock) : Bld w0 (w1.setCell ⟨B, 0, none⟩ v1) B more other next := by
  have hb1 := blk_grown hb hg hne
  refine ⟨v1, by simpa using blk_set hb1 0 v1, hB, Kd.R_far hR1 (fun k hk => hk) _, below_set hbel1 hB⟩

set_option maxHeartbeats 2000000 in
set_option maxRecDepth 100000 in
theorem jump_calls (w0 w : World) (B : Nat) (items : List S40) (other next : Int) (label : Int) (h : Bld w0 w B items other next) (hl : items.length + 1 ≤ 1000000) :
    Calls Try.prog 98 #[.pointer (some ⟨B, 0, none⟩), .int .i64 label] w fun e w' => e = .returned (.tuple #[]) ∧ Bld w0 w' B (items ++ [⟨2, 0, 0, label, 0⟩]) other next ∧ Keep w w' := by
  obtain ⟨v, hb, hB, hR, hBel⟩ := h
  have Hb := Aside0.mk hb
  have HR := Aside0.mk hR
  have HB := Aside0.mk hBel
  have k0 : w.cell? ⟨B, 0, none⟩ = some v := (blk_cell hb 0).trans rfl
  have f0 := blk_frozen hb 0
  have hne : some B ≠ v.ownBlock := fun e => (hR.1 B e.symm) rfl
  have hlt := blk_lt hb
  have hsz := hBel.size
  clear hb hR hBel
  go_enter Try.func98, Try.ntmps98
  go_wp2_with (at_builtin; refine Kd.R_append k40 (w0 := w0) w0.heap.size rfl (.tmp 8) (.tmp 11) 24 40 (.agg #[(.int .i64 0), (.int .u16 0), (.int .u32 0), (.int .i64 0), (.int .i64 0)]) 32 rfl Try.underlying24 info40 rfl (by decide) (by omega) v items (⟨2, 0, 0, label, 0⟩ : S40) [.int .i64 2, .int .u16 0, .int .u32 0, .int .i64 label, .int .i64 0] (fun k_ => k_ ≠ B) (fun _ => False) rfl rfl ?aP (fun _ hk => hk.elim) ?aF ?aO ?aB ?aS ?aL ?_)
  case aP => exact k40_mkM _ _ _ (⟨2, 0, 0, label, 0⟩ : S40)
  case aF => intro k hk; omega
  case aO => exact HR.out
  case aB => exact HB.out
  case aS => exact hsz
  case aL => omega
  intro v1 w1 hR1 hbel1 hg _
  obtain ⟨A1, c1, rfl⟩ := Kd.R_slice hR1
  rw [List.length_append, List.length_singleton] at hR1
  have hb1 := blk_grown Hb.out hg hne
  have k1 : w1.cell? ⟨B, 0, none⟩ = some v := (blk_cell hb1 0).trans rfl
  have f1 := blk_frozen hb1 0
  have Hg := Aside0.mk hg
  have HR1 := Aside0.mk hR1
  have HB1 := Aside0.mk hbel1
  clear hg hR1 hbel1 hb1 k0 f0
  go_wp2
  go_end0
  refine ⟨rfl, Bld.put Hb.out hB HR1.out HB1.out Hg.out hne, Keep.of_set Hb.out fun k hk hkB hk40 => (Below.heap_setCell w1 _ _ k hkB).trans (Hg.out.block k hk fun e => ?_)⟩
  obtain ⟨inner, ho⟩ := Kd.R_own HR.out
  obtain ⟨cells, hc⟩ := own_typed ho k e.symm
  exact hk40 cells hc

set_option maxHeartbeats 2000000 in
set_option maxRecDepth 100000 in
theorem mark_calls (w0 w : World) (B : Nat) (items : List S40) (other next : Int) (label : Int) (h : Bld w0 w B items other next) (hl : items.length + 1 ≤ 1000000) :
    Calls Try.prog 102 #[.pointer (some ⟨B, 0, none⟩), .int .i64 label] w fun e w' => e = .returned (.tuple #[]) ∧ Bld w0 w' B (items ++ [⟨4, 0, 0, label, 0⟩]) other next ∧ Keep w w' := by
  obtain ⟨v, hb, hB, hR, hBel⟩ := h
  have Hb := Aside0.mk hb
  have HR := Aside0.mk hR
  have HB := Aside0.mk hBel
  have k0 : w.cell? ⟨B, 0, none⟩ = some v := (blk_cell hb 0).trans rfl
  have f0 := blk_frozen hb 0
  have hne : some B ≠ v.ownBlock := fun e => (hR.1 B e.symm) rfl
  have hlt := blk_lt hb
  have hsz := hBel.size
  clear hb hR hBel
  go_enter Try.func102, Try.ntmps102
  go_wp2_with (at_builtin; refine Kd.R_append k40 (w0 := w0) w0.heap.size rfl (.tmp 8) (.tmp 11) 24 40 (.agg #[(.int .i64 0), (.int .u16 0), (.int .u32 0), (.int .i64 0), (.int .i64 0)]) 32 rfl Try.underlying24 info40 rfl (by decide) (by omega) v items (⟨4, 0, 0, label, 0⟩ : S40) [.int .i64 4, .int .u16 0, .int .u32 0, .int .i64 label, .int .i64 0] (fun k_ => k_ ≠ B) (fun _ => False) rfl rfl ?aP (fun _ hk => hk.elim) ?aF ?aO ?aB ?aS ?aL ?_)
  case aP => exact k40_mkM _ _ _ (⟨4, 0, 0, label, 0⟩ : S40)
  case aF => intro k hk; omega
  case aO => exact HR.out
  case aB => exact HB.out
  case aS => exact hsz
  case aL => omega
  intro v1 w1 hR1 hbel1 hg _
  obtain ⟨A1, c1, rfl⟩ := Kd.R_slice hR1
  rw [List.length_append, List.length_singleton] at hR1
  have hb1 := blk_grown Hb.out hg hne
  have k1 : w1.cell? ⟨B, 0, none⟩ = some v := (blk_cell hb1 0).trans rfl
  have f1 := blk_frozen hb1 0
  have Hg := Aside0.mk hg
  have HR1 := Aside0.mk hR1
  have HB1 := Aside0.mk hbel1
  clear hg hR1 hbel1 hb1 k0 f0
  go_wp2
  go_end0
  refine ⟨rfl, Bld.put Hb.out hB HR1.out HB1.out Hg.out hne, Keep.of_set Hb.out fun k hk hkB hk40 => (Below.heap_setCell w1 _ _ k hkB).trans (Hg.out.block k hk fun e => ?_)⟩
  obtain ⟨inner, ho⟩ := Kd.R_own HR.out
  obtain ⟨cells, hc⟩ := own_typed ho k e.symm
  exact hk40 cells hc

set_option maxHeartbeats 2000000 in
set_option maxRecDepth 100000 in
theorem ask_calls (w0 w : World) (B : Nat) (items : List S40) (other next : Int) (code k yes no : Int) (h : Bld w0 w B items other next) (hl : items.length + 1 ≤ 1000000) :
    Calls Try.prog 101 #[.pointer (some ⟨B, 0, none⟩), .int .u16 code, .int .u32 k, .int .i64 yes, .int .i64 no] w fun e w' => e = .returned (.tuple #[]) ∧ Bld w0 w' B (items ++ [⟨3, code, k, yes, no⟩]) other next ∧ Keep w w' := by
  obtain ⟨v, hb, hB, hR, hBel⟩ := h
  have Hb := Aside0.mk hb
  have HR := Aside0.mk hR
  have HB := Aside0.mk hBel
  have k0 : w.cell? ⟨B, 0, none⟩ = some v := (blk_cell hb 0).trans rfl
  have f0 := blk_frozen hb 0
  have hne : some B ≠ v.ownBlock := fun e => (hR.1 B e.symm) rfl
  have hlt := blk_lt hb
  have hsz := hBel.size
  clear hb hR hBel
  go_enter Try.func101, Try.ntmps101
  go_wp2_with (at_builtin; refine Kd.R_append k40 (w0 := w0) w0.heap.size rfl (.tmp 14) (.tmp 20) 24 40 (.agg #[(.int .i64 0), (.int .u16 0), (.int .u32 0), (.int .i64 0), (.int .i64 0)]) 32 rfl Try.underlying24 info40 rfl (by decide) (by omega) v items (⟨3, code, k, yes, no⟩ : S40) [.int .i64 3, .int .u16 code, .int .u32 k, .int .i64 yes, .int .i64 no] (fun k_ => k_ ≠ B) (fun _ => False) rfl rfl ?aP (fun _ hk => hk.elim) ?aF ?aO ?aB ?aS ?aL ?_)
  case aP => exact k40_mkM _ _ _ (⟨3, code, k, yes, no⟩ : S40)
  case aF => intro k hk; omega
  case aO => exact HR.out
  case aB => exact HB.out
  case aS => exact hsz
  case aL => omega
  intro v1 w1 hR1 hbel1 hg _
  obtain ⟨A1, c1, rfl⟩ := Kd.R_slice hR1
  rw [List.length_append, List.length_singleton] at hR1
  have hb1 := blk_grown Hb.out hg hne
  have k1 : w1.cell? ⟨B, 0, none⟩ = some v := (blk_cell hb1 0).trans rfl
  have f1 := blk_frozen hb1 0
  have Hg := Aside0.mk hg
  have HR1 := Aside0.mk hR1
  have HB1 := Aside0.mk hbel1
  clear hg hR1 hbel1 hb1 k0 f0
  go_wp2
  go_end0
  refine ⟨rfl, Bld.put Hb.out hB HR1.out HB1.out Hg.out hne, Keep.of_set Hb.out fun k hk hkB hk40 => (Below.heap_setCell w1 _ _ k hkB).trans (Hg.out.block k hk fun e => ?_)⟩
  obtain ⟨inner, ho⟩ := Kd.R_own HR.out
  obtain ⟨cells, hc⟩ := own_typed ho k e.symm
  exact hk40 cells hc

set_option maxHeartbeats 2000000 in
set_option maxRecDepth 100000 in
theorem label_calls (w0 w : World) (B : Nat) (items : List S40) (other next : Int) (h : Bld w0 w B items other next) (h0 : 0 ≤ next) (h1 : next < 4611686018427387904) :
    Calls Try.prog 100 #[.pointer (some ⟨B, 0, none⟩)] w fun e w' => e = .returned (.int .i64 next) ∧ Bld w0 w' B items other (next + 1) ∧ Keep w w' := by
  obtain ⟨v, hb, hB, hR, hBel⟩ := h
  have Hb := Aside0.mk hb
  have HR := Aside0.mk hR
  have HB := Aside0.mk hBel
  have k0 : w.cell? ⟨B, 2, none⟩ = some (.int .i64 next) := (blk_cell hb 2).trans rfl
  have f0 := blk_frozen hb 2
  clear hb hR hBel
  go_enter Try.func100, Try.ntmps100
  go_wp2
  go_ret
  refine ⟨by first | rfl | (congr 1; congr 1; omega), ⟨v, by simpa using blk_set Hb.out 2 (.int .i64 (next + 1)), hB, Kd.R_far HR.out (fun k hk => hk) _, below_set HB.out hB⟩, Keep.of_set Hb.out fun k hk hkB hk40 => Below.heap_setCell w _ _ k hkB⟩

/-- What a row comes to: items, and the next label. -/
def leafF (x : S113) (other next : Int) : List S40 × Int :=
  if x.f0 = 0 ∧ x.f1 = 4294967295 then ([⟨2, 0, 0, x.f2, 0⟩], next)
  else if x.f0 = x.f1 then ([⟨3, 21, x.f0, x.f2, other⟩], next)
  else if x.f0 = 0 then ([⟨3, 37, x.f1, other, x.f2⟩], next)
  else if x.f1 = 4294967295 then ([⟨3, 53, x.f0, x.f2, other⟩], next)
  else ([⟨3, 53, x.f0, next, other⟩, ⟨4, 0, 0, next, 0⟩, ⟨3, 37, x.f1, other, x.f2⟩], next + 1)

set_option maxHeartbeats 4000000 in
set_option maxRecDepth 100000 in
theorem leaf_whole (w0 w : World) (B : Nat) (items : List S40) (other next lo hi lab : Int) (h : Bld w0 w B items other next) (hl : items.length + 3 ≤ 1000000) (h0 : 0 ≤ next) (h1 : next < 4611686018427387904) (hc0 : (lo == 0) = true) (hc1 : (hi == 4294967295) = true) :
    Calls Try.prog 99 #[.pointer (some ⟨B, 0, none⟩), .agg #[.int .u32 lo, .int .u32 hi, .int .i64 lab]] w fun e w' => e = .returned (.tuple #[]) ∧ Bld w0 w' B (items ++ [⟨2, 0, 0, lab, 0⟩]) other next ∧ Keep w w' := by
  have H0 := Aside0.mk h
  clear h
  go_enter Try.func99, Try.ntmps99
  go_wp2_with (first | ((with_reducible refine gate_dst (N := 3) rfl ?_); refine box_event ?hg (N := 3) ?hd (cs := #[.int .u32 lo, .int .u32 hi, .int .i64 lab]) (t := 113) ?hr ?_; (case hd => rfl); (case hg => rfl); (case hr => first | (go_simp; done) | (go_simp; rfl)); intro gb hgb w2 hbox hbb; have hA := Aside0.mk (Bld.below H0.out hbb); have hX := Aside0.mk hbox; have hK0 := Aside0.mk (Keep.of_below hbb); have hgs := Aside0.mk hgb; have c0 : w2.cell? ⟨gb, 0, none⟩ = some (.int .u32 lo) := (blk_cell hbox 0).trans rfl; have c1 : w2.cell? ⟨gb, 1, none⟩ = some (.int .u32 hi) := (blk_cell hbox 1).trans rfl; have c2 : w2.cell? ⟨gb, 2, none⟩ = some (.int .i64 lab) := (blk_cell hbox 2).trans rfl; have k1 : w2.cell? ⟨B, 1, none⟩ = some (.int .i64 other) := Bld.cell1 hA.out; clear hbox hbb hgb H0) | (go_at_call 98; refine (jump_calls w0 _ B items other next lab hA.out (by omega)).mono ?_; rintro e w1 ⟨rfl, hb1, hk1⟩))
  go_end0
  exact ⟨rfl, hb1, hK0.out.trans hk1⟩

set_option maxHeartbeats 4000000 in
set_option maxRecDepth 100000 in
theorem leaf_one0 (w0 w : World) (B : Nat) (items : List S40) (other next lo hi lab : Int) (h : Bld w0 w B items other next) (hl : items.length + 3 ≤ 1000000) (h0 : 0 ≤ next) (h1 : next < 4611686018427387904) (hc0 : (lo == 0) = true) (hc1 : (hi == 4294967295) = false) (hc2 : (lo == hi) = true) :
    Calls Try.prog 99 #[.pointer (some ⟨B, 0, none⟩), .agg #[.int .u32 lo, .int .u32 hi, .int .i64 lab]] w fun e w' => e = .returned (.tuple #[]) ∧ Bld w0 w' B (items ++ [⟨3, 21, lo, lab, other⟩]) other next ∧ Keep w w' := by
  have H0 := Aside0.mk h
  clear h
  go_enter Try.func99, Try.ntmps99
  go_wp2_with (first | ((with_reducible refine gate_dst (N := 3) rfl ?_); refine box_event ?hg (N := 3) ?hd (cs := #[.int .u32 lo, .int .u32 hi, .int .i64 lab]) (t := 113) ?hr ?_; (case hd => rfl); (case hg => rfl); (case hr => first | (go_simp; done) | (go_simp; rfl)); intro gb hgb w2 hbox hbb; have hA := Aside0.mk (Bld.below H0.out hbb); have hX := Aside0.mk hbox; have hK0 := Aside0.mk (Keep.of_below hbb); have hgs := Aside0.mk hgb; have c0 : w2.cell? ⟨gb, 0, none⟩ = some (.int .u32 lo) := (blk_cell hbox 0).trans rfl; have c1 : w2.cell? ⟨gb, 1, none⟩ = some (.int .u32 hi) := (blk_cell hbox 1).trans rfl; have c2 : w2.cell? ⟨gb, 2, none⟩ = some (.int .i64 lab) := (blk_cell hbox 2).trans rfl; have k1 : w2.cell? ⟨B, 1, none⟩ = some (.int .i64 other) := Bld.cell1 hA.out; clear hbox hbb hgb H0))
  go_still_tail 9, (by kernel_rfl)
  change wpList _ _ _ _ _ w2.drew
  go_wp2_with (go_at_call 101; refine (ask_calls w0 _ B items other next 21 lo lab other (Bld.drew hA.out) (by omega)).mono ?_; rintro e w1 ⟨rfl, hb1, hk1⟩)
  go_end0
  exact ⟨rfl, hb1, hK0.out.trans hk1⟩

set_option maxHeartbeats 4000000 in
set_option maxRecDepth 100000 in
theorem leaf_one (w0 w : World) (B : Nat) (items : List S40) (other next lo hi lab : Int) (h : Bld w0 w B items other next) (hl : items.length + 3 ≤ 1000000) (h0 : 0 ≤ next) (h1 : next < 4611686018427387904) (hc0 : (lo == 0) = false) (hc2 : (lo == hi) = true) :
    Calls Try.prog 99 #[.pointer (some ⟨B, 0, none⟩), .agg #[.int .u32 lo, .int .u32 hi, .int .i64 lab]] w fun e w' => e = .returned (.tuple #[]) ∧ Bld w0 w' B (items ++ [⟨3, 21, lo, lab, other⟩]) other next ∧ Keep w w' := by
  have H0 := Aside0.mk h
  clear h
  go_enter Try.func99, Try.ntmps99
  go_wp2_with (first | ((with_reducible refine gate_dst (N := 3) rfl ?_); refine box_event ?hg (N := 3) ?hd (cs := #[.int .u32 lo, .int .u32 hi, .int .i64 lab]) (t := 113) ?hr ?_; (case hd => rfl); (case hg => rfl); (case hr => first | (go_simp; done) | (go_simp; rfl)); intro gb hgb w2 hbox hbb; have hA := Aside0.mk (Bld.below H0.out hbb); have hX := Aside0.mk hbox; have hK0 := Aside0.mk (Keep.of_below hbb); have hgs := Aside0.mk hgb; have c0 : w2.cell? ⟨gb, 0, none⟩ = some (.int .u32 lo) := (blk_cell hbox 0).trans rfl; have c1 : w2.cell? ⟨gb, 1, none⟩ = some (.int .u32 hi) := (blk_cell hbox 1).trans rfl; have c2 : w2.cell? ⟨gb, 2, none⟩ = some (.int .i64 lab) := (blk_cell hbox 2).trans rfl; have k1 : w2.cell? ⟨B, 1, none⟩ = some (.int .i64 other) := Bld.cell1 hA.out; clear hbox hbb hgb H0))
  go_still_tail 9, (by kernel_rfl)
  change wpList _ _ _ _ _ w2.drew
  go_wp2_with (go_at_call 101; refine (ask_calls w0 _ B items other next 21 lo lab other (Bld.drew hA.out) (by omega)).mono ?_; rintro e w1 ⟨rfl, hb1, hk1⟩)
  go_end0
  exact ⟨rfl, hb1, hK0.out.trans hk1⟩

set_option maxHeartbeats 4000000 in
set_option maxRecDepth 100000 in
theorem leaf_low (w0 w : World) (B : Nat) (items : List S40) (other next lo hi lab : Int) (h : Bld w0 w B items other next) (hl : items.length + 3 ≤ 1000000) (h0 : 0 ≤ next) (h1 : next < 4611686018427387904) (hc0 : (lo == 0) = true) (hc1 : (hi == 4294967295) = false) (hc2 : (lo == hi) = false) :
    Calls Try.prog 99 #[.pointer (some ⟨B, 0, none⟩), .agg #[.int .u32 lo, .int .u32 hi, .int .i64 lab]] w fun e w' => e = .returned (.tuple #[]) ∧ Bld w0 w' B (items ++ [⟨3, 37, hi, other, lab⟩]) other next ∧ Keep w w' := by
  have H0 := Aside0.mk h
  clear h
  go_enter Try.func99, Try.ntmps99
  go_wp2_with (first | ((with_reducible refine gate_dst (N := 3) rfl ?_); refine box_event ?hg (N := 3) ?hd (cs := #[.int .u32 lo, .int .u32 hi, .int .i64 lab]) (t := 113) ?hr ?_; (case hd => rfl); (case hg => rfl); (case hr => first | (go_simp; done) | (go_simp; rfl)); intro gb hgb w2 hbox hbb; have hA := Aside0.mk (Bld.below H0.out hbb); have hX := Aside0.mk hbox; have hK0 := Aside0.mk (Keep.of_below hbb); have hgs := Aside0.mk hgb; have c0 : w2.cell? ⟨gb, 0, none⟩ = some (.int .u32 lo) := (blk_cell hbox 0).trans rfl; have c1 : w2.cell? ⟨gb, 1, none⟩ = some (.int .u32 hi) := (blk_cell hbox 1).trans rfl; have c2 : w2.cell? ⟨gb, 2, none⟩ = some (.int .i64 lab) := (blk_cell hbox 2).trans rfl; have k1 : w2.cell? ⟨B, 1, none⟩ = some (.int .i64 other) := Bld.cell1 hA.out; clear hbox hbb hgb H0))
  go_still_tail 9, (by kernel_rfl)
  change wpList _ _ _ _ _ w2.drew
  go_wp2_with (go_at_call 101; refine (ask_calls w0 _ B items other next 37 hi other lab (Bld.drew hA.out) (by omega)).mono ?_; rintro e w1 ⟨rfl, hb1, hk1⟩)
  go_end0
  exact ⟨rfl, hb1, hK0.out.trans hk1⟩

set_option maxHeartbeats 4000000 in
set_option maxRecDepth 100000 in
theorem leaf_high (w0 w : World) (B : Nat) (items : List S40) (other next lo hi lab : Int) (h : Bld w0 w B items other next) (hl : items.length + 3 ≤ 1000000) (h0 : 0 ≤ next) (h1 : next < 4611686018427387904) (hc0 : (lo == 0) = false) (hc1 : (hi == 4294967295) = true) (hc2 : (lo == hi) = false) :
    Calls Try.prog 99 #[.pointer (some ⟨B, 0, none⟩), .agg #[.int .u32 lo, .int .u32 hi, .int .i64 lab]] w fun e w' => e = .returned (.tuple #[]) ∧ Bld w0 w' B (items ++ [⟨3, 53, lo, lab, other⟩]) other next ∧ Keep w w' := by
  have H0 := Aside0.mk h
  clear h
  go_enter Try.func99, Try.ntmps99
  go_wp2_with (first | ((with_reducible refine gate_dst (N := 3) rfl ?_); refine box_event ?hg (N := 3) ?hd (cs := #[.int .u32 lo, .int .u32 hi, .int .i64 lab]) (t := 113) ?hr ?_; (case hd => rfl); (case hg => rfl); (case hr => first | (go_simp; done) | (go_simp; rfl)); intro gb hgb w2 hbox hbb; have hA := Aside0.mk (Bld.below H0.out hbb); have hX := Aside0.mk hbox; have hK0 := Aside0.mk (Keep.of_below hbb); have hgs := Aside0.mk hgb; have c0 : w2.cell? ⟨gb, 0, none⟩ = some (.int .u32 lo) := (blk_cell hbox 0).trans rfl; have c1 : w2.cell? ⟨gb, 1, none⟩ = some (.int .u32 hi) := (blk_cell hbox 1).trans rfl; have c2 : w2.cell? ⟨gb, 2, none⟩ = some (.int .i64 lab) := (blk_cell hbox 2).trans rfl; have k1 : w2.cell? ⟨B, 1, none⟩ = some (.int .i64 other) := Bld.cell1 hA.out; clear hbox hbb hgb H0))
  go_still_tail 9, (by kernel_rfl)
  change wpList _ _ _ _ _ w2.drew
  go_wp2_with (go_at_call 101; refine (ask_calls w0 _ B items other next 53 lo lab other (Bld.drew hA.out) (by omega)).mono ?_; rintro e w1 ⟨rfl, hb1, hk1⟩)
  go_end0
  exact ⟨rfl, hb1, hK0.out.trans hk1⟩

end Go.Proofs.Ytmjpibeiglicdaa.TreeB
