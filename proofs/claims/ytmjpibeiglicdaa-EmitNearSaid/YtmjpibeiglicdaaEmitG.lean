/- emit.put: an item's instructions. -/
import Derived.Test.YtmjpibeiglicdaaEmitF
namespace Go.Proofs.Ytmjpibeiglicdaa.EmitB
open Go.RowKit Go.Proofs.Ytmjpibeiglicdaa.E Go.Proofs.YtmjpibeiglicdaaU.PrintWords Go.Proofs.YtmjpibeiglicdaaU.PrintLast Go.Proofs.YtmjpibeiglicdaaU.PrintMore
open Go.Proofs.Ytmjpibeiglicdaa.MapI (wf upd Is)
set_option linter.unusedVariables false
set_option linter.unusedSimpArgs false

/-- An item's instructions. -/
def putL (l : List S40) (ps : List Int) (ls : List Bool) (i : Nat) : List S56 :=
  if (at_ l i).f0 = 1 then [⟨(at_ l i).f1, 0, 0, (at_ l i).f2⟩]
  else if (at_ l i).f0 = 2 then [⟨5, 0, 0, farF l ps i (at_ l i).f3 % 4294967296⟩]
  else if (at_ l i).f0 = 4 then []
  else if ls.getD i false = false then [⟨(at_ l i).f1, farF l ps i (at_ l i).f3 % 256, farF l ps i (at_ l i).f4 % 256, (at_ l i).f2⟩]
  else [⟨(at_ l i).f1, 0, 1, (at_ l i).f2⟩, ⟨5, 0, 0, (farF l ps i (at_ l i).f3 - 1) % 4294967296⟩, ⟨5, 0, 0, (farF l ps i (at_ l i).f4 - 2) % 4294967296⟩]
theorem far_range {l : List S40} {ps : List Int} (hs : Small ps) (i : Nat) (t : Int) : -300001 ≤ farF l ps i t ∧ farF l ps i t ≤ 300001 := by
  have a := hs (lastP l t)
  have b := hs i
  unfold farF; omega
theorem Lay.grown {w0 w w1 : World} {b : Blk} {A : Option Addr} {c : Nat} {l : List S40} {ps : List Int} {ls : List Bool} {sz : Int} {v : Value} {xs : List S56} (h : Lay w0 w b A c l ps ls sz) (hv : Kd.R k56 56 w w0.heap.size (fun _ => True) v xs) (hg : w.grownBy w1 v.ownBlock) (hb : Below w0.heap.size w0 w1) : Lay w0 w1 b A c l ps ls sz := by
  obtain ⟨inner, ho⟩ := Kd.R_own hv
  have key : ∀ k o, w.heap[k]? = some o → (∀ cells, o ≠ Obj.cells cells 56 (0, 0)) → w1.heap[k]? = w.heap[k]? := fun k o e hn => hg.block k (blk_lt e) (fun e' => by
    obtain ⟨cells, hc⟩ := own_typed ho k e'.symm
    rw [hc] at e; exact hn cells (Option.some.inj e).symm)
  obtain ⟨_, cp, e1⟩ := h.pt
  obtain ⟨_, cg, e2⟩ := h.gt
  obtain ⟨es, ck, e3⟩ := h.mp.blk
  refine ⟨(key _ _ h.st (fun cells e => by injection e with _ e; exact absurd e (by decide))).trans h.st, h.hB, ?_, h.lp, ?_, h.lg, h.mp.same (key _ _ e3 (fun cells e => by cases e)), hb⟩
  · exact Kd.R_mono (Kd.R_move (ok := fun k => k = b.p) ⟨fun k hk => by simp [Value.ownBlock] at hk; exact hk.symm, by obtain ⟨_, inner, ho, hr⟩ := h.hp; exact ⟨inner, ho, hr.imp_ (fun _ _ hp => hp)⟩⟩ (fun k hk => by rw [hk]; exact key _ _ e1 (fun cells e => by injection e with _ e; exact absurd e (by decide)))) (fun _ _ => trivial)
  · exact Kd.R_mono (Kd.R_move (ok := fun k => k = b.g) ⟨fun k hk => by simp [Value.ownBlock] at hk; exact hk.symm, by obtain ⟨_, inner, ho, hr⟩ := h.hg; exact ⟨inner, ho, hr.imp_ (fun _ _ hp => hp)⟩⟩ (fun k hk => by rw [hk]; exact key _ _ e2 (fun cells e => by injection e with _ e; exact absurd e (by decide)))) (fun _ _ => trivial)
theorem lit3 (W : World) (x y z : S56) : Kd.C k56 (W.alloc (.cells #[.int .u16 x.f0, .int .u8 x.f1, .int .u8 x.f2, .int .u32 x.f3, .int .u16 y.f0, .int .u8 y.f1, .int .u8 y.f2, .int .u32 y.f3, .int .u16 z.f0, .int .u8 z.f1, .int .u8 z.f2, .int .u32 z.f3] 56)) (some ⟨W.heap.size, 0, none⟩) 3 [x, y, z] := by
  have hb := heap_alloc_new W (.cells #[.int .u16 x.f0, .int .u8 x.f1, .int .u8 x.f2, .int .u32 x.f3, .int .u16 y.f0, .int .u8 y.f1, .int .u8 y.f2, .int .u32 y.f3, .int .u16 z.f0, .int .u8 z.f1, .int .u8 z.f2, .int .u32 z.f3] 56)
  have ha : ∀ n, (⟨W.heap.size, 0, none⟩ : Addr).add n = ⟨W.heap.size, n, none⟩ := fun n => by unfold Addr.add; split <;> simp_all
  refine ⟨rfl, (by decide), fun _ => ⟨_, rfl, fun j p hj => ?_⟩⟩
  match j, hj with
  | 0, hj =>
    obtain rfl := Option.some.inj hj
    refine ⟨_, rfl, k56_mk _ _, fun i u hu => ?_⟩
    rw [ha]
    match i, hu with
    | 0, hu => obtain rfl := Option.some.inj hu; exact (blk_cell hb 0).trans rfl
    | 1, hu => obtain rfl := Option.some.inj hu; exact (blk_cell hb 1).trans rfl
    | 2, hu => obtain rfl := Option.some.inj hu; exact (blk_cell hb 2).trans rfl
    | 3, hu => obtain rfl := Option.some.inj hu; exact (blk_cell hb 3).trans rfl
    | i + 4, hu => simp at hu
  | 1, hj =>
    obtain rfl := Option.some.inj hj
    refine ⟨_, rfl, k56_mk _ _, fun i u hu => ?_⟩
    rw [ha]
    match i, hu with
    | 0, hu => obtain rfl := Option.some.inj hu; exact (blk_cell hb 4).trans rfl
    | 1, hu => obtain rfl := Option.some.inj hu; exact (blk_cell hb 5).trans rfl
    | 2, hu => obtain rfl := Option.some.inj hu; exact (blk_cell hb 6).trans rfl
    | 3, hu => obtain rfl := Option.some.inj hu; exact (blk_cell hb 7).trans rfl
    | i + 4, hu => simp at hu
  | 2, hj =>
    obtain rfl := Option.some.inj hj
    refine ⟨_, rfl, k56_mk _ _, fun i u hu => ?_⟩
    rw [ha]
    match i, hu with
    | 0, hu => obtain rfl := Option.some.inj hu; exact (blk_cell hb 8).trans rfl
    | 1, hu => obtain rfl := Option.some.inj hu; exact (blk_cell hb 9).trans rfl
    | 2, hu => obtain rfl := Option.some.inj hu; exact (blk_cell hb 10).trans rfl
    | 3, hu => obtain rfl := Option.some.inj hu; exact (blk_cell hb 11).trans rfl
    | i + 4, hu => simp at hu
  | j + 3, hj => simp at hj

set_option maxHeartbeats 8000000 in
set_option maxRecDepth 100000 in
theorem put_plain (w0 w : World) (b : Blk) (A : Option Addr) (c : Nat) (l : List S40) (ps : List Int) (ls : List Bool) (sz : Int) (hr : Kd.C k40 w0 A l.length l) (h : Lay w0 w b A c l ps ls sz) (hw : WfI l) (hs : Small ps) (i : Nat) (hi : i < l.length) (vo : Value) (xs : List S56) (hv : Kd.R k56 56 w w0.heap.size (fun _ => True) vo xs) (hx : xs.length ≤ 1000000)
    (x : S40) (hxx : at_ l i = x) (h1 : x.f0 = 1) :
    Calls Try.prog 90 #[.pointer (some ⟨b.B, 0, none⟩), vo, .int .i64 i] w fun e w' => ∃ v1 : Value, e = .returned v1 ∧ Kd.R k56 56 w' w0.heap.size (fun _ => True) v1 (xs ++ [⟨x.f1, 0, 0, x.f2⟩]) ∧ Lay w0 w' b A c l ps ls sz := by
  obtain ⟨ad, rfl, c0, c1, c2, c3, c4⟩ := at_T40 (Kd.C_below hr h.bel) (i : Int) (by omega) (by omega)
  rw [show rd_T40 l (i : Int) = at_ l i from rfl, hxx, Int.toNat_natCast] at c0 c1 c2 c3 c4
  obtain ⟨A1, c1', rfl⟩ := Kd.R_slice hv
  have W3 := Aside0.mk (show wf x.f3 by rw [← hxx]; exact (hw i).1)
  have W4 := Aside0.mk (show wf x.f4 by rw [← hxx]; exact (hw i).2)
  have HS := Aside0.mk hs
  have k0 := h.c0
  have q0 : (0 : Int) ≤ (i : Int) := by omega
  have q1 : (i : Int) < (l.length : Int) := by omega
  have L := Aside0.mk (h.alloc (.cells #[.int .i64 x.f0, .int .u16 x.f1, .int .u32 x.f2, .int .i64 x.f3, .int .i64 x.f4] 40))
  have BX := Aside0.mk (show (w.alloc (.cells #[.int .i64 x.f0, .int .u16 x.f1, .int .u32 x.f2, .int .i64 x.f3, .int .i64 x.f4] 40)).heap[w.heap.size]? = some (.cells #[.int .i64 x.f0, .int .u16 x.f1, .int .u32 x.f2, .int .i64 x.f3, .int .i64 x.f4] 40 (0, 0)) from heap_alloc_new w _)
  have V := Aside0.mk (Kd.R_alloc hv (.cells #[.int .i64 x.f0, .int .u16 x.f1, .int .u32 x.f2, .int .i64 x.f3, .int .i64 x.f4] 40))
  have SZ := Aside0.mk h.bel.size
  have t1 : (x.f0 == 1) = true := beq_iff_eq.2 h1
  clear h1
  clear hr h hw hs hv hxx
  go_enter Try.func90, Try.ntmps90
  go_wp2_with (at_builtin; refine Kd.R_append k56 (w0 := w0) w0.heap.size rfl (.tmp 21) (.tmp 27) 45 56 (.agg #[(.int .u16 0), (.int .u8 0), (.int .u8 0), (.int .u32 0)]) 8 rfl Try.underlying45 info56 rfl (by decide) (by omega) (.slice A1 xs.length c1') xs (⟨x.f1, 0, 0, x.f2⟩ : S56) [.int .u16 x.f1, .int .u8 0, .int .u8 0, .int .u32 x.f2] (fun _ => True) (fun _ => False) rfl (by first | rfl | (go_simp; done) | (go_simp; rfl)) (k56_mkM _ _ _ (⟨x.f1, 0, 0, x.f2⟩ : S56)) (fun _ hk => hk.elim) (fun _ _ => trivial) V.out L.out.bel (by have := SZ.out; simp; omega) (by omega) ?_; intro v1 w1 hR1 hb1 hg1 _; have R1 := Aside0.mk hR1; have L1 := Aside0.mk (Lay.grown L.out V.out hg1 hb1); clear hR1 hb1 hg1)
  go_ret
  exact ⟨_, rfl, R1.out, L1.out⟩

set_option maxHeartbeats 8000000 in
set_option maxRecDepth 100000 in
theorem put_mark (w0 w : World) (b : Blk) (A : Option Addr) (c : Nat) (l : List S40) (ps : List Int) (ls : List Bool) (sz : Int) (hr : Kd.C k40 w0 A l.length l) (h : Lay w0 w b A c l ps ls sz) (hw : WfI l) (hs : Small ps) (i : Nat) (hi : i < l.length) (vo : Value) (xs : List S56) (hv : Kd.R k56 56 w w0.heap.size (fun _ => True) vo xs) (hx : xs.length ≤ 1000000)
    (x : S40) (hxx : at_ l i = x) (h4 : x.f0 = 4) :
    Calls Try.prog 90 #[.pointer (some ⟨b.B, 0, none⟩), vo, .int .i64 i] w fun e w' => ∃ v1 : Value, e = .returned v1 ∧ Kd.R k56 56 w' w0.heap.size (fun _ => True) v1 (xs ++ []) ∧ Lay w0 w' b A c l ps ls sz := by
  obtain ⟨ad, rfl, c0, c1, c2, c3, c4⟩ := at_T40 (Kd.C_below hr h.bel) (i : Int) (by omega) (by omega)
  rw [show rd_T40 l (i : Int) = at_ l i from rfl, hxx, Int.toNat_natCast] at c0 c1 c2 c3 c4
  obtain ⟨A1, c1', rfl⟩ := Kd.R_slice hv
  have W3 := Aside0.mk (show wf x.f3 by rw [← hxx]; exact (hw i).1)
  have W4 := Aside0.mk (show wf x.f4 by rw [← hxx]; exact (hw i).2)
  have HS := Aside0.mk hs
  have k0 := h.c0
  have q0 : (0 : Int) ≤ (i : Int) := by omega
  have q1 : (i : Int) < (l.length : Int) := by omega
  have L := Aside0.mk (h.alloc (.cells #[.int .i64 x.f0, .int .u16 x.f1, .int .u32 x.f2, .int .i64 x.f3, .int .i64 x.f4] 40))
  have BX := Aside0.mk (show (w.alloc (.cells #[.int .i64 x.f0, .int .u16 x.f1, .int .u32 x.f2, .int .i64 x.f3, .int .i64 x.f4] 40)).heap[w.heap.size]? = some (.cells #[.int .i64 x.f0, .int .u16 x.f1, .int .u32 x.f2, .int .i64 x.f3, .int .i64 x.f4] 40 (0, 0)) from heap_alloc_new w _)
  have V := Aside0.mk (Kd.R_alloc hv (.cells #[.int .i64 x.f0, .int .u16 x.f1, .int .u32 x.f2, .int .i64 x.f3, .int .i64 x.f4] 40))
  have SZ := Aside0.mk h.bel.size
  have t1 : (x.f0 == 1) = false := beq_eq_false_iff_ne.2 (by omega)
  have t2 : (x.f0 == 2) = false := beq_eq_false_iff_ne.2 (by omega)
  have t4 : (x.f0 == 4) = true := beq_iff_eq.2 h4
  clear h4
  clear hr h hw hs hv hxx
  go_enter Try.func90, Try.ntmps90
  go_wp2
  go_ret
  exact ⟨_, rfl, by rw [List.append_nil]; exact V.out, L.out⟩

theorem far_at {w0 w : World} {b : Blk} {A : Option Addr} {c : Nat} {l : List S40} {ps : List Int} {ls : List Bool} {sz : Int} (h : Lay w0 w b A c l ps ls sz) (hs : Small ps) (i : Nat) (hi : i < l.length) (t : Int) (ht : wf t) {f : Int} (hf : farF l ps i t = f) :
    Calls Try.prog 109 #[.pointer (some ⟨b.B, 0, none⟩), .int .i64 i, .int .i64 t] w fun e w' => e = .returned (.int .i64 f) ∧ ∃ m, w' = w.drewN m := by
  have := far_calls w0 w b A c l ps ls sz h hs i hi t ht
  rwa [hf] at this

set_option maxHeartbeats 8000000 in
set_option maxRecDepth 100000 in
theorem put_jump (w0 w : World) (b : Blk) (A : Option Addr) (c : Nat) (l : List S40) (ps : List Int) (ls : List Bool) (sz : Int) (hr : Kd.C k40 w0 A l.length l) (h : Lay w0 w b A c l ps ls sz) (hw : WfI l) (hs : Small ps) (i : Nat) (hi : i < l.length) (vo : Value) (xs : List S56) (hv : Kd.R k56 56 w w0.heap.size (fun _ => True) vo xs) (hx : xs.length ≤ 1000000)
    (x : S40) (hxx : at_ l i = x) (h2 : x.f0 = 2) (fy : Int) (hy : farF l ps i x.f3 = fy) :
    Calls Try.prog 90 #[.pointer (some ⟨b.B, 0, none⟩), vo, .int .i64 i] w fun e w' => ∃ v1 : Value, e = .returned v1 ∧ Kd.R k56 56 w' w0.heap.size (fun _ => True) v1 (xs ++ [⟨5, 0, 0, fy % 4294967296⟩]) ∧ Lay w0 w' b A c l ps ls sz := by
  obtain ⟨ad, rfl, c0, c1, c2, c3, c4⟩ := at_T40 (Kd.C_below hr h.bel) (i : Int) (by omega) (by omega)
  rw [show rd_T40 l (i : Int) = at_ l i from rfl, hxx, Int.toNat_natCast] at c0 c1 c2 c3 c4
  obtain ⟨A1, c1', rfl⟩ := Kd.R_slice hv
  have W3 := Aside0.mk (show wf x.f3 by rw [← hxx]; exact (hw i).1)
  have W4 := Aside0.mk (show wf x.f4 by rw [← hxx]; exact (hw i).2)
  have HS := Aside0.mk hs
  have k0 := h.c0
  have q0 : (0 : Int) ≤ (i : Int) := by omega
  have q1 : (i : Int) < (l.length : Int) := by omega
  have L := Aside0.mk (h.alloc (.cells #[.int .i64 x.f0, .int .u16 x.f1, .int .u32 x.f2, .int .i64 x.f3, .int .i64 x.f4] 40))
  have BX := Aside0.mk (show (w.alloc (.cells #[.int .i64 x.f0, .int .u16 x.f1, .int .u32 x.f2, .int .i64 x.f3, .int .i64 x.f4] 40)).heap[w.heap.size]? = some (.cells #[.int .i64 x.f0, .int .u16 x.f1, .int .u32 x.f2, .int .i64 x.f3, .int .i64 x.f4] 40 (0, 0)) from heap_alloc_new w _)
  have V := Aside0.mk (Kd.R_alloc hv (.cells #[.int .i64 x.f0, .int .u16 x.f1, .int .u32 x.f2, .int .i64 x.f3, .int .i64 x.f4] 40))
  have SZ := Aside0.mk h.bel.size
  have t1 : (x.f0 == 1) = false := beq_eq_false_iff_ne.2 (by omega)
  have t2 : (x.f0 == 2) = true := beq_iff_eq.2 h2
  have HY := Aside0.mk hy
  clear h2 hy
  clear hr h hw hs hv hxx
  go_enter Try.func90, Try.ntmps90
  go_wp2_with (first | (go_at_call 109; (with_reducible refine (far_at L.out HS.out i hi x.f3 W3.out HY.out).mono ?_); rintro e w2 ⟨rfl, n2, rfl⟩) | (at_builtin; refine Kd.R_append k56 (w0 := w0) w0.heap.size rfl (.tmp 33) (.tmp 41) 45 56 (.agg #[(.int .u16 0), (.int .u8 0), (.int .u8 0), (.int .u32 0)]) 8 rfl Try.underlying45 info56 rfl (by decide) (by omega) (.slice A1 xs.length c1') xs (⟨5, 0, 0, fy % 4294967296⟩ : S56) [.int .u16 5, .int .u8 0, .int .u8 0, .int .u32 (fy % 4294967296)] (fun _ => True) (fun _ => False) rfl (by first | rfl | (go_simp; done) | (go_simp; rfl)) (k56_mkM _ _ _ (⟨5, 0, 0, fy % 4294967296⟩ : S56)) (fun _ hk => hk.elim) (fun _ _ => trivial) (Kd.R_drewN V.out _) (L.out.drewN _).bel (by have := SZ.out; simp; omega) (by omega) ?_; intro v1 w1 hR1 hb1 hg1 _; have R1 := Aside0.mk hR1; have L1 := Aside0.mk (Lay.grown (L.out.drewN _) (Kd.R_drewN V.out _) hg1 hb1); clear hR1 hb1 hg1))
  go_ret
  exact ⟨_, rfl, R1.out, L1.out⟩

set_option maxHeartbeats 8000000 in
set_option maxRecDepth 100000 in
theorem put_short (w0 w : World) (b : Blk) (A : Option Addr) (c : Nat) (l : List S40) (ps : List Int) (ls : List Bool) (sz : Int) (hr : Kd.C k40 w0 A l.length l) (h : Lay w0 w b A c l ps ls sz) (hw : WfI l) (hs : Small ps) (i : Nat) (hi : i < l.length) (vo : Value) (xs : List S56) (hv : Kd.R k56 56 w w0.heap.size (fun _ => True) vo xs) (hx : xs.length ≤ 1000000)
    (x : S40) (hxx : at_ l i = x) (h1 : ¬ x.f0 = 1) (h2 : ¬ x.f0 = 2) (h4 : ¬ x.f0 = 4) (fy fn : Int) (hy : farF l ps i x.f3 = fy) (hn : farF l ps i x.f4 = fn) (y0 : -400000 ≤ fy) (y1 : fy ≤ 400000) (n0 : -400000 ≤ fn) (n1 : fn ≤ 400000) (hlk : ls.getD i false = false) :
    Calls Try.prog 90 #[.pointer (some ⟨b.B, 0, none⟩), vo, .int .i64 i] w fun e w' => ∃ v1 : Value, e = .returned v1 ∧ Kd.R k56 56 w' w0.heap.size (fun _ => True) v1 (xs ++ [⟨x.f1, fy % 256, fn % 256, x.f2⟩]) ∧ Lay w0 w' b A c l ps ls sz := by
  obtain ⟨ad, rfl, c0, c1, c2, c3, c4⟩ := at_T40 (Kd.C_below hr h.bel) (i : Int) (by omega) (by omega)
  rw [show rd_T40 l (i : Int) = at_ l i from rfl, hxx, Int.toNat_natCast] at c0 c1 c2 c3 c4
  obtain ⟨A1, c1', rfl⟩ := Kd.R_slice hv
  have W3 := Aside0.mk (show wf x.f3 by rw [← hxx]; exact (hw i).1)
  have W4 := Aside0.mk (show wf x.f4 by rw [← hxx]; exact (hw i).2)
  have HS := Aside0.mk hs
  have k0 := h.c0
  have q0 : (0 : Int) ≤ (i : Int) := by omega
  have q1 : (i : Int) < (l.length : Int) := by omega
  have L := Aside0.mk (h.alloc (.cells #[.int .i64 x.f0, .int .u16 x.f1, .int .u32 x.f2, .int .i64 x.f3, .int .i64 x.f4] 40))
  have BX := Aside0.mk (show (w.alloc (.cells #[.int .i64 x.f0, .int .u16 x.f1, .int .u32 x.f2, .int .i64 x.f3, .int .i64 x.f4] 40)).heap[w.heap.size]? = some (.cells #[.int .i64 x.f0, .int .u16 x.f1, .int .u32 x.f2, .int .i64 x.f3, .int .i64 x.f4] 40 (0, 0)) from heap_alloc_new w _)
  have V := Aside0.mk (Kd.R_alloc hv (.cells #[.int .i64 x.f0, .int .u16 x.f1, .int .u32 x.f2, .int .i64 x.f3, .int .i64 x.f4] 40))
  have SZ := Aside0.mk h.bel.size
  have t1 : (x.f0 == 1) = false := beq_eq_false_iff_ne.2 h1
  have t2 : (x.f0 == 2) = false := beq_eq_false_iff_ne.2 h2
  have t4 : (x.f0 == 4) = false := beq_eq_false_iff_ne.2 h4
  have HY := Aside0.mk hy
  have HN := Aside0.mk hn
  have HLK := Aside0.mk hlk
  clear h1 h2 h4 hy hn hlk
  clear hr h hw hs hv hxx
  go_enter Try.func90, Try.ntmps90
  go_wp2_with fail
  generalize (w.alloc (.cells #[.int .i64 x.f0, .int .u16 x.f1, .int .u32 x.f2, .int .i64 x.f3, .int .i64 x.f4] 40)) = W2 at L BX V ⊢
  generalize w.heap.size = gb at BX SZ ⊢
  clear c0 c1 c2 c3 c4 k0
  have FY := Aside0.mk (show ∀ n : Nat, Calls Try.prog 109 #[.pointer (some ⟨b.B, 0, none⟩), .int .i64 i, .int .i64 x.f3] (W2.drewN n) fun e w' => e = .returned (.int .i64 fy) ∧ ∃ m, w' = (W2.drewN n).drewN m from fun n => far_at (L.out.drewN n) HS.out i hi x.f3 W3.out HY.out)
  have FN := Aside0.mk (show ∀ n : Nat, Calls Try.prog 109 #[.pointer (some ⟨b.B, 0, none⟩), .int .i64 i, .int .i64 x.f4] (W2.drewN n) fun e w' => e = .returned (.int .i64 fn) ∧ ∃ m, w' = (W2.drewN n).drewN m from fun n => far_at (L.out.drewN n) HS.out i hi x.f4 W4.out HN.out)
  have d1 : W2.cell? ⟨gb, 1, none⟩ = some (.int .u16 x.f1) := (blk_cell BX.out 1).trans rfl
  have d2 : W2.cell? ⟨gb, 2, none⟩ = some (.int .u32 x.f2) := (blk_cell BX.out 2).trans rfl
  have d3 : W2.cell? ⟨gb, 3, none⟩ = some (.int .i64 x.f3) := (blk_cell BX.out 3).trans rfl
  have d4 : W2.cell? ⟨gb, 4, none⟩ = some (.int .i64 x.f4) := (blk_cell BX.out 4).trans rfl
  have e3 := L.out.c3
  have e6 := (L.out.long i hi).1
  rw [HLK.out] at e6
  have S2 := Aside0.mk (show w0.heap.size ≤ W2.heap.size from L.out.bel.size)
  go_quiet (first | (go_at_call 109; with_reducible exact Calls.quiet_of (FY.out _)) | (go_at_call 109; with_reducible exact Calls.quiet_of (FN.out _)))
  go_wp2_with (at_builtin; refine Kd.R_append k56 (w0 := w0) w0.heap.size rfl (.tmp 66) (.tmp 76) 45 56 (.agg #[(.int .u16 0), (.int .u8 0), (.int .u8 0), (.int .u32 0)]) 8 rfl Try.underlying45 info56 rfl (by decide) (by omega) (.slice A1 xs.length c1') xs (⟨x.f1, fy % 256, fn % 256, x.f2⟩ : S56) [.int .u16 x.f1, .int .u8 (fy % 256), .int .u8 (fn % 256), .int .u32 x.f2] (fun _ => True) (fun _ => False) rfl (by first | rfl | (go_simp; done) | (go_simp; rfl)) (k56_mkM _ _ _ (⟨x.f1, fy % 256, fn % 256, x.f2⟩ : S56)) (fun _ hk => hk.elim) (fun _ _ => trivial) (Kd.R_drewN V.out _) (L.out.drewN _).bel S2.out (by omega) ?_; intro v1 w1 hR1 hb1 hg1 _; have R1 := Aside0.mk hR1; have L1 := Aside0.mk (Lay.grown (L.out.drewN _) (Kd.R_drewN V.out _) hg1 hb1); clear hR1 hb1 hg1)
  go_ret
  exact ⟨_, rfl, R1.out, L1.out⟩

set_option maxHeartbeats 8000000 in
set_option maxRecDepth 100000 in
theorem put_long (w0 w : World) (b : Blk) (A : Option Addr) (c : Nat) (l : List S40) (ps : List Int) (ls : List Bool) (sz : Int) (hr : Kd.C k40 w0 A l.length l) (h : Lay w0 w b A c l ps ls sz) (hw : WfI l) (hs : Small ps) (i : Nat) (hi : i < l.length) (vo : Value) (xs : List S56) (hv : Kd.R k56 56 w w0.heap.size (fun _ => True) vo xs) (hx : xs.length ≤ 1000000)
    (x : S40) (hxx : at_ l i = x) (h1 : ¬ x.f0 = 1) (h2 : ¬ x.f0 = 2) (h4 : ¬ x.f0 = 4) (fy fn : Int) (hy : farF l ps i x.f3 = fy) (hn : farF l ps i x.f4 = fn) (y0 : -400000 ≤ fy) (y1 : fy ≤ 400000) (n0 : -400000 ≤ fn) (n1 : fn ≤ 400000) (hlk : ls.getD i false = true) :
    Calls Try.prog 90 #[.pointer (some ⟨b.B, 0, none⟩), vo, .int .i64 i] w fun e w' => ∃ v1 : Value, e = .returned v1 ∧ Kd.R k56 56 w' w0.heap.size (fun _ => True) v1 (xs ++ [⟨x.f1, 0, 1, x.f2⟩, ⟨5, 0, 0, (fy - 1) % 4294967296⟩, ⟨5, 0, 0, (fn - 2) % 4294967296⟩]) ∧ Lay w0 w' b A c l ps ls sz := by
  obtain ⟨ad, rfl, c0, c1, c2, c3, c4⟩ := at_T40 (Kd.C_below hr h.bel) (i : Int) (by omega) (by omega)
  rw [show rd_T40 l (i : Int) = at_ l i from rfl, hxx, Int.toNat_natCast] at c0 c1 c2 c3 c4
  obtain ⟨A1, c1', rfl⟩ := Kd.R_slice hv
  have W3 := Aside0.mk (show wf x.f3 by rw [← hxx]; exact (hw i).1)
  have W4 := Aside0.mk (show wf x.f4 by rw [← hxx]; exact (hw i).2)
  have HS := Aside0.mk hs
  have k0 := h.c0
  have q0 : (0 : Int) ≤ (i : Int) := by omega
  have q1 : (i : Int) < (l.length : Int) := by omega
  have L := Aside0.mk (h.alloc (.cells #[.int .i64 x.f0, .int .u16 x.f1, .int .u32 x.f2, .int .i64 x.f3, .int .i64 x.f4] 40))
  have BX := Aside0.mk (show (w.alloc (.cells #[.int .i64 x.f0, .int .u16 x.f1, .int .u32 x.f2, .int .i64 x.f3, .int .i64 x.f4] 40)).heap[w.heap.size]? = some (.cells #[.int .i64 x.f0, .int .u16 x.f1, .int .u32 x.f2, .int .i64 x.f3, .int .i64 x.f4] 40 (0, 0)) from heap_alloc_new w _)
  have V := Aside0.mk (Kd.R_alloc hv (.cells #[.int .i64 x.f0, .int .u16 x.f1, .int .u32 x.f2, .int .i64 x.f3, .int .i64 x.f4] 40))
  have SZ := Aside0.mk h.bel.size
  have t1 : (x.f0 == 1) = false := beq_eq_false_iff_ne.2 h1
  have t2 : (x.f0 == 2) = false := beq_eq_false_iff_ne.2 h2
  have t4 : (x.f0 == 4) = false := beq_eq_false_iff_ne.2 h4
  have HY := Aside0.mk hy
  have HN := Aside0.mk hn
  have HLK := Aside0.mk hlk
  clear h1 h2 h4 hy hn hlk
  clear hr h hw hs hv hxx
  go_enter Try.func90, Try.ntmps90
  go_wp2_with fail
  generalize (w.alloc (.cells #[.int .i64 x.f0, .int .u16 x.f1, .int .u32 x.f2, .int .i64 x.f3, .int .i64 x.f4] 40)) = W2 at L BX V ⊢
  generalize w.heap.size = gb at BX SZ ⊢
  clear c0 c1 c2 c3 c4 k0
  have FY := Aside0.mk (show ∀ n : Nat, Calls Try.prog 109 #[.pointer (some ⟨b.B, 0, none⟩), .int .i64 i, .int .i64 x.f3] (W2.drewN n) fun e w' => e = .returned (.int .i64 fy) ∧ ∃ m, w' = (W2.drewN n).drewN m from fun n => far_at (L.out.drewN n) HS.out i hi x.f3 W3.out HY.out)
  have FN := Aside0.mk (show ∀ n : Nat, Calls Try.prog 109 #[.pointer (some ⟨b.B, 0, none⟩), .int .i64 i, .int .i64 x.f4] (W2.drewN n) fun e w' => e = .returned (.int .i64 fn) ∧ ∃ m, w' = (W2.drewN n).drewN m from fun n => far_at (L.out.drewN n) HS.out i hi x.f4 W4.out HN.out)
  have d1 : W2.cell? ⟨gb, 1, none⟩ = some (.int .u16 x.f1) := (blk_cell BX.out 1).trans rfl
  have d2 : W2.cell? ⟨gb, 2, none⟩ = some (.int .u32 x.f2) := (blk_cell BX.out 2).trans rfl
  have d3 : W2.cell? ⟨gb, 3, none⟩ = some (.int .i64 x.f3) := (blk_cell BX.out 3).trans rfl
  have d4 : W2.cell? ⟨gb, 4, none⟩ = some (.int .i64 x.f4) := (blk_cell BX.out 4).trans rfl
  have e3 := L.out.c3
  have e6 := (L.out.long i hi).1
  rw [HLK.out] at e6
  have S2 := Aside0.mk (show w0.heap.size ≤ W2.heap.size from L.out.bel.size)
  go_quiet (first | (go_at_call 109; with_reducible exact Calls.quiet_of (FY.out _)) | (go_at_call 109; with_reducible exact Calls.quiet_of (FN.out _)))
  go_wp2_with (at_builtin; refine Kd.R_append_rows k56 (w0 := w0) w0.heap.size rfl (.tmp 78) (.tmp 92) 45 56 (.agg #[(.int .u16 0), (.int .u8 0), (.int .u8 0), (.int .u32 0)]) 8 rfl Try.underlying45 info56 rfl (by decide) (by omega) (.slice A1 xs.length c1') xs [(⟨x.f1, 0, 1, x.f2⟩ : S56), (⟨5, 0, 0, (fy - 1) % 4294967296⟩ : S56), (⟨5, 0, 0, (fn - 2) % 4294967296⟩ : S56)] _ _ _ (fun _ => True) (fun _ => False) rfl rfl (Kd.R_alloc (Kd.R_drewN V.out _) _) (lit3 _ (⟨x.f1, 0, 1, x.f2⟩ : S56) (⟨5, 0, 0, (fy - 1) % 4294967296⟩ : S56) (⟨5, 0, 0, (fn - 2) % 4294967296⟩ : S56)) (fun _ _ h => h) (fun _ h => h.elim) (fun _ _ => trivial) (below_alloc (L.out.drewN _).bel _) (by have := S2.out; simp; omega) (by omega) ?_; intro v1 w1 hR1 hb1 hg1 _; have R1 := Aside0.mk hR1; have L1 := Aside0.mk (Lay.grown ((L.out.drewN _).alloc _) (Kd.R_alloc (Kd.R_drewN V.out _) _) hg1 hb1); clear hR1 hb1 hg1)
  go_ret
  exact ⟨_, rfl, R1.out, L1.out⟩

theorem put_calls (w0 w : World) (b : Blk) (A : Option Addr) (c : Nat) (l : List S40) (ps : List Int) (ls : List Bool) (sz : Int) (hr : Kd.C k40 w0 A l.length l) (h : Lay w0 w b A c l ps ls sz) (hw : WfI l) (hs : Small ps) (i : Nat) (hi : i < l.length) (vo : Value) (xs : List S56) (hv : Kd.R k56 56 w w0.heap.size (fun _ => True) vo xs) (hx : xs.length ≤ 1000000) :
    Calls Try.prog 90 #[.pointer (some ⟨b.B, 0, none⟩), vo, .int .i64 i] w fun e w' => ∃ v1 : Value, e = .returned v1 ∧ Kd.R k56 56 w' w0.heap.size (fun _ => True) v1 (xs ++ putL l ps ls i) ∧ Lay w0 w' b A c l ps ls sz := by
  unfold putL
  by_cases h1 : (at_ l i).f0 = 1
  · rw [if_pos h1]; exact put_plain w0 w b A c l ps ls sz hr h hw hs i hi vo xs hv hx _ rfl h1
  rw [if_neg h1]
  by_cases h2 : (at_ l i).f0 = 2
  · rw [if_pos h2]; exact put_jump w0 w b A c l ps ls sz hr h hw hs i hi vo xs hv hx _ rfl h2 _ rfl
  rw [if_neg h2]
  by_cases h4 : (at_ l i).f0 = 4
  · rw [if_pos h4]; exact put_mark w0 w b A c l ps ls sz hr h hw hs i hi vo xs hv hx _ rfl h4
  rw [if_neg h4]
  have f3 := far_range hs i (at_ l i).f3 (l := l)
  have f4 := far_range hs i (at_ l i).f4 (l := l)
  by_cases hk : ls.getD i false = false
  · rw [if_pos hk]; exact put_short w0 w b A c l ps ls sz hr h hw hs i hi vo xs hv hx _ rfl h1 h2 h4 _ _ rfl rfl (by omega) (by omega) (by omega) (by omega) hk
  · rw [if_neg hk]; exact put_long w0 w b A c l ps ls sz hr h hw hs i hi vo xs hv hx _ rfl h1 h2 h4 _ _ rfl rfl (by omega) (by omega) (by omega) (by omega) (by simpa using hk)

end Go.Proofs.Ytmjpibeiglicdaa.EmitB
