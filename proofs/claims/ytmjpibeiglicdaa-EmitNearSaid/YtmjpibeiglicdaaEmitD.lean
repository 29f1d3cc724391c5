/- emit: the layout of items, and where each stands. -/
import Derived.Test.YtmjpibeiglicdaaEmitC
import Derived.StillTailTactics
namespace Go.Proofs.Ytmjpibeiglicdaa.EmitB
open Go.RowKit Go.Proofs.Ytmjpibeiglicdaa.E Go.Proofs.YtmjpibeiglicdaaU.PrintWords Go.Proofs.YtmjpibeiglicdaaU.PrintLast Go.Proofs.YtmjpibeiglicdaaU.PrintMore
open Go.Proofs.Ytmjpibeiglicdaa.MapI (wf upd Is)
set_option linter.unusedVariables false
set_option linter.unusedSimpArgs false

/-- The blocks of a layout: the struct, the map, the row of places, the row of marks. -/
structure Blk where
  B : Nat
  m : Nat
  p : Nat
  g : Nat
  cp : Nat
  cg : Nat
/-- The layout of items l. -/
structure Lay (w0 w : World) (b : Blk) (A : Option Addr) (c : Nat) (l : List S40) (ps : List Int) (ls : List Bool) (sz : Int) : Prop where
  st : w.heap[b.B]? = some (.cells #[.slice A l.length c, .map (some b.m), .slice (some ⟨b.p, 0, none⟩) l.length b.cp, .slice (some ⟨b.g, 0, none⟩) l.length b.cg, .int .i64 sz] 138 (0, 0))
  hB : w0.heap.size ≤ b.B
  hp : Kd.R (Kd.int .i64) 3 w w0.heap.size (fun _ => True) (.slice (some ⟨b.p, 0, none⟩) l.length b.cp) ps
  lp : ps.length = l.length
  hg : Kd.R Kd.bool 4 w w0.heap.size (fun _ => True) (.slice (some ⟨b.g, 0, none⟩) l.length b.cg) ls
  lg : ls.length = l.length
  mp : Is w b.m l.length (lastM l l.length)
  bel : Below w0.heap.size w0 w
section
variable {w0 w : World} {b : Blk} {A : Option Addr} {c : Nat} {l : List S40} {ps : List Int} {ls : List Bool} {sz : Int}
theorem Lay.pt (h : Lay w0 w b A c l ps ls sz) : w0.heap.size ≤ b.p ∧ ∃ cells, w.heap[b.p]? = some (.cells cells 3 (0, 0)) := by
  obtain ⟨inner, ho⟩ := Kd.R_own h.hp
  exact ⟨(ho.lt b.p (by simp [Value.ownBlock])).1, own_typed ho b.p (by simp [Value.ownBlock])⟩
theorem Lay.gt (h : Lay w0 w b A c l ps ls sz) : w0.heap.size ≤ b.g ∧ ∃ cells, w.heap[b.g]? = some (.cells cells 4 (0, 0)) := by
  obtain ⟨inner, ho⟩ := Kd.R_own h.hg
  exact ⟨(ho.lt b.g (by simp [Value.ownBlock])).1, own_typed ho b.g (by simp [Value.ownBlock])⟩
theorem ne_types {w : World} {a b : Nat} {x y : Array Value} {s t : TypeId} (h1 : w.heap[a]? = some (.cells x s (0, 0))) (h2 : w.heap[b]? = some (.cells y t (0, 0))) (h : s ≠ t) : a ≠ b := by
  rintro rfl
  rw [h1] at h2
  injection h2 with h2
  injection h2 with _ h2
  exact h h2
theorem ne_map {w : World} {a b : Nat} {x : Array Value} {s : TypeId} {es : Array MapEntry} {ck : Nat} (h1 : w.heap[a]? = some (.cells x s (0, 0))) (h2 : w.heap[b]? = some (.map es ck)) : a ≠ b := by
  rintro rfl
  rw [h1] at h2
  injection h2 with h2
  cases h2
theorem Lay.apart (h : Lay w0 w b A c l ps ls sz) : b.B ≠ b.p ∧ b.B ≠ b.g ∧ b.p ≠ b.g ∧ b.B ≠ b.m ∧ b.p ≠ b.m ∧ b.g ≠ b.m := by
  obtain ⟨_, cp, e1⟩ := h.pt
  obtain ⟨_, cg, e2⟩ := h.gt
  obtain ⟨es, ck, e3⟩ := h.mp.blk
  exact ⟨ne_types h.st e1 (by decide), ne_types h.st e2 (by decide), ne_types e1 e2 (by decide), ne_map h.st e3, ne_map e1 e3, ne_map e2 e3⟩
theorem Lay.below (h : Lay w0 w b A c l ps ls sz) {w1 : World} (hb : Below w.heap.size w w1) : Lay w0 w1 b A c l ps ls sz :=
  ⟨(hb.block _ (blk_lt h.st)).trans h.st, h.hB, Kd.R_below h.hp hb, h.lp, Kd.R_below h.hg hb, h.lg, is_below h.mp hb, below_step h.bel hb⟩
theorem Lay.alloc (h : Lay w0 w b A c l ps ls sz) (o : Obj) : Lay w0 (w.alloc o) b A c l ps ls sz := h.below (below_alloc (Below.refl _ _) o)
theorem Lay.drew (h : Lay w0 w b A c l ps ls sz) : Lay w0 w.drew b A c l ps ls sz := h.below (below_drew1 (Below.refl _ _))
theorem Lay.drewN (h : Lay w0 w b A c l ps ls sz) (n : Nat) : Lay w0 (w.drewN n) b A c l ps ls sz := h.below (pw_below_drewN (Below.refl _ _) n)
theorem row_far {α : Type} {d : Kd α} {e base g n cp : Nat} {xs : List α} (h : d.R e w base (fun _ => True) (.slice (some ⟨g, 0, none⟩) n cp) xs) (hE : d.E = []) {q : Nat} (hne : q ≠ g) (j : Nat) (u : Value) : d.R e (w.setCell ⟨q, j, none⟩ u) base (fun _ => True) (.slice (some ⟨g, 0, none⟩) n cp) xs :=
  Kd.R_mono (Kd.R_far (Kd.R_far1 h hE (g := q) (by simp [Value.ownBlock, hne])) (p := ⟨q, j, none⟩) (fun k hk => hk.2) u) (fun _ _ => trivial)
theorem Lay.setPlace (h : Lay w0 w b A c l ps ls sz) (k : Nat) (x : Int) : Lay w0 (w.setCell ⟨b.p, k, none⟩ (.int .i64 x)) b A c l (ps.set k x) ls sz := by
  obtain ⟨a1, a2, a3, a4, a5, a6⟩ := h.apart
  have hs := Kd.R_putn (enc := Value.int .i64) (h1 := fun _ => rfl) h.hp (k : Int) x
  rw [Int.toNat_natCast] at hs
  exact ⟨blk_far h.st a1 _, h.hB, hs, by rw [List.length_set]; exact h.lp, row_far h.hg rfl a3 _ _, h.lg, h.mp.setCell (Ne.symm a5) _, below_set h.bel h.pt.1⟩
theorem Lay.setLong (h : Lay w0 w b A c l ps ls sz) (k : Nat) (x : Bool) : Lay w0 (w.setCell ⟨b.g, k, none⟩ (.bool x)) b A c l ps (ls.set k x) sz := by
  obtain ⟨a1, a2, a3, a4, a5, a6⟩ := h.apart
  have hs := Kd.R_putn (enc := Value.bool) (h1 := fun _ => rfl) h.hg (k : Int) x
  rw [Int.toNat_natCast] at hs
  exact ⟨blk_far h.st a2 _, h.hB, row_far h.hp rfl (Ne.symm a3) _ _, h.lp, hs, by rw [List.length_set]; exact h.lg, h.mp.setCell (Ne.symm a6) _, below_set h.bel h.gt.1⟩
theorem Lay.setSize (h : Lay w0 w b A c l ps ls sz) (x : Int) : Lay w0 (w.setCell ⟨b.B, 4, none⟩ (.int .i64 x)) b A c l ps ls x := by
  obtain ⟨a1, a2, a3, a4, a5, a6⟩ := h.apart
  exact ⟨by simpa using blk_set h.st 4 (.int .i64 x), h.hB, row_far h.hp rfl a1 _ _, h.lp, row_far h.hg rfl a2 _ _, h.lg, h.mp.setCell (Ne.symm a4) _, below_set h.bel h.hB⟩
theorem Lay.place (h : Lay w0 w b A c l ps ls sz) (k : Nat) (hk : k < l.length) : w.cell? ⟨b.p, k, none⟩ = some (.int .i64 (ps.getD k 0)) ∧ w.frozen? ⟨b.p, k, none⟩ = false := by
  have := Kd.R_celln (enc := Value.int .i64) (h1 := fun _ => rfl) (0 : Int) h.hp (k : Int) (by omega) (by omega)
  rw [Int.toNat_natCast] at this
  have e : rdOf (0 : Int) ps (k : Int) = ps.getD k 0 := by simp [rdOf]
  rw [e] at this; exact this
theorem Lay.long (h : Lay w0 w b A c l ps ls sz) (k : Nat) (hk : k < l.length) : w.cell? ⟨b.g, k, none⟩ = some (.bool (ls.getD k false)) ∧ w.frozen? ⟨b.g, k, none⟩ = false := by
  have := Kd.R_celln (enc := Value.bool) (h1 := fun _ => rfl) false h.hg (k : Int) (by omega) (by omega)
  rw [Int.toNat_natCast] at this
  have e : rdOf false ls (k : Int) = ls.getD k false := by simp [rdOf]
  rw [e] at this; exact this
theorem Lay.c0 (h : Lay w0 w b A c l ps ls sz) : w.cell? ⟨b.B, 0, none⟩ = some (.slice A l.length c) := (blk_cell h.st 0).trans rfl
theorem Lay.c1 (h : Lay w0 w b A c l ps ls sz) : w.cell? ⟨b.B, 1, none⟩ = some (.map (some b.m)) := (blk_cell h.st 1).trans rfl
theorem Lay.c2 (h : Lay w0 w b A c l ps ls sz) : w.cell? ⟨b.B, 2, none⟩ = some (.slice (some ⟨b.p, 0, none⟩) l.length b.cp) := (blk_cell h.st 2).trans rfl
theorem Lay.c3 (h : Lay w0 w b A c l ps ls sz) : w.cell? ⟨b.B, 3, none⟩ = some (.slice (some ⟨b.g, 0, none⟩) l.length b.cg) := (blk_cell h.st 3).trans rfl
theorem Lay.c4 (h : Lay w0 w b A c l ps ls sz) : w.cell? ⟨b.B, 4, none⟩ = some (.int .i64 sz) := (blk_cell h.st 4).trans rfl
theorem Lay.fr (h : Lay w0 w b A c l ps ls sz) (j : Nat) : w.frozen? ⟨b.B, j, none⟩ = false := blk_frozen h.st j
end

/-! ### Where each item stands -/
def width (l : List S40) (ls : List Bool) (i : Nat) : Int := if (at_ l i).f0 = 4 then 0 else if ls.getD i false = true then 3 else 1
def placeAt (l : List S40) (ls : List Bool) : Nat → Int
  | 0 => 0
  | i + 1 => placeAt l ls i + width l ls i
theorem place_range (l : List S40) (ls : List Bool) : ∀ i : Nat, 0 ≤ placeAt l ls i ∧ placeAt l ls i ≤ 3 * i
  | 0 => ⟨Int.le_refl _, Int.le_refl _⟩
  | i + 1 => by
    have a := place_range l ls i
    rw [placeAt]
    unfold width
    split <;> (try split) <;> omega
def places (l : List S40) (ls : List Bool) : List Int := (List.range l.length).map (placeAt l ls)
theorem places_of {l : List S40} {ls : List Bool} {ps : List Int} (hl : ps.length = l.length) (h : ∀ j, j < l.length → ps.getD j 0 = placeAt l ls j) : ps = places l ls := by
  apply List.ext_getElem
  · rw [hl]; simp [places]
  · intro j h1 h2
    have := h j (by omega)
    rw [List.getD_eq_getElem?_getD, List.getElem?_eq_getElem h1, Option.getD_some] at this
    simp [places, this]
theorem set_getD {ps : List Int} {k j : Nat} {x : Int} (hk : k < ps.length) : (ps.set k x).getD j 0 = if j = k then x else ps.getD j 0 := by
  rw [List.getD_eq_getElem?_getD, List.getElem?_set, List.getD_eq_getElem?_getD]
  by_cases e : k = j
  · subst e; simp [hk]
  · rw [if_neg e, if_neg (Ne.symm e)]

set_option maxHeartbeats 8000000 in
set_option maxRecDepth 100000 in
theorem lay_calls (w0 w : World) (b : Blk) (A : Option Addr) (c : Nat) (l : List S40) (ps : List Int) (ls : List Bool) (sz : Int) (hr : Kd.C k40 w0 A l.length l) (h : Lay w0 w b A c l ps ls sz) (hl : l.length ≤ 65536) :
    Calls Try.prog 107 #[.pointer (some ⟨b.B, 0, none⟩)] w fun e w' => e = .returned (.tuple #[]) ∧ Lay w0 w' b A c l (places l ls) ls (placeAt l ls l.length) := by
  have HR := Aside0.mk hr
  have H0 := Aside0.mk (h.setSize 0)
  have k4 := h.c4
  have k0 : (w.setCell ⟨b.B, 4, none⟩ (.int .i64 0)).cell? ⟨b.B, 0, none⟩ = some (.slice A l.length c) := (h.setSize 0).c0
  have f4 := h.fr 4
  clear hr h
  go_enter Try.func107, Try.ntmps107
  go_wp2
  generalize w.setCell ⟨b.B, 4, none⟩ (.int .i64 0) = W1 at *
  go_loopw [12] (fun i wr => ∃ (k : Nat) (qs : List Int), k ≤ l.length ∧ i = .int .i64 k ∧ Lay w0 wr b A c l qs ls (placeAt l ls k) ∧ (∀ j, j < k → qs.getD j 0 = placeAt l ls j)) (fun i _ => l.length - (intOf i).toNat)
  case atStart => exact ⟨0, ps, Nat.zero_le _, rfl, H0.out, fun j hj => absurd hj (Nat.not_lt_zero _)⟩
  case round =>
    obtain ⟨k, qs, hk, rfl, hlay, hz⟩ := hrel
    have L := Aside0.mk hlay
    have HZ := Aside0.mk hz
    clear hlay hz
    by_cases hlt : k < l.length
    · obtain ⟨ad, rfl, c0, c1, c2, c3, c4⟩ := at_T40 (Kd.C_below HR.out L.out.bel) (k : Int) (by omega) (by omega)
      have ex : rd_T40 l (k : Int) = at_ l k := rfl
      rw [ex] at c0 c1 c2 c3 c4
      rw [Int.toNat_natCast] at c0 c1 c2 c3 c4
      obtain ⟨x, hx⟩ : ∃ x, at_ l k = x := ⟨_, rfl⟩
      rw [hx] at c0 c1 c2 c3 c4
      have HX := Aside0.mk hx
      clear hx ex
      obtain ⟨pk, hpk⟩ : ∃ v, placeAt l ls k = v := ⟨_, rfl⟩
      have hpr := place_range l ls k
      rw [hpk] at hpr
      have HP := Aside0.mk hpk
      have LB0 := Aside0.mk (L.out.alloc (.cells #[.int .i64 x.f0, .int .u16 x.f1, .int .u32 x.f2, .int .i64 x.f3, .int .i64 x.f4] 40))
      have BX0 := Aside0.mk (show (wr.alloc (.cells #[.int .i64 x.f0, .int .u16 x.f1, .int .u32 x.f2, .int .i64 x.f3, .int .i64 x.f4] 40)).heap[wr.heap.size]? = some (.cells #[.int .i64 x.f0, .int .u16 x.f1, .int .u32 x.f2, .int .i64 x.f3, .int .i64 x.f4] 40 (0, 0)) from heap_alloc_new wr _)
      clear hpk
      rw [HP.out] at LB0
      go_wp2_with fail
      have hne : wr.heap.size ≠ b.p := fun e => by obtain ⟨_, cells, he⟩ := L.out.pt; have := blk_lt he; omega
      generalize (wr.alloc (.cells #[.int .i64 x.f0, .int .u16 x.f1, .int .u32 x.f2, .int .i64 x.f3, .int .i64 x.f4] 40)) = W2 at LB0 BX0 ⊢
      generalize wr.heap.size = gb at BX0 hne ⊢
      have e2 := LB0.out.c2
      have e4 := LB0.out.c4
      go_still_tail 10, (by kernel_rfl)
      change wpList _ _ _ _ _ W2.drew
      have LB := Aside0.mk LB0.out.drew
      have BX := Aside0.mk (show W2.drew.heap[gb]? = _ from BX0.out)
      clear LB0 BX0 e2 e4
      generalize W2.drew = W2 at LB BX ⊢
      obtain ⟨p0, p1⟩ := LB.out.place k hlt
      have LC := Aside0.mk (LB.out.setPlace k pk)
      have BY := Aside0.mk (blk_far BX.out (p := ⟨b.p, k, none⟩) hne (.int .i64 pk))
      have d0 : (W2.setCell ⟨b.p, k, none⟩ (.int .i64 pk)).cell? ⟨gb, 0, none⟩ = some (.int .i64 x.f0) := (blk_cell BY.out 0).trans rfl
      have e3 := LC.out.c3
      have e5 := LC.out.c4
      have f5 := LC.out.fr 4
      have e6 := (LC.out.long k hlt).1
      have hsz := Aside0.mk (LC.out.setSize (pk + 3))
      have hsz1 := Aside0.mk (LC.out.setSize (pk + 1))
      obtain ⟨lk, hlk⟩ : ∃ v, ls.getD k false = v := ⟨_, rfl⟩
      rw [hlk] at e6
      have HLK := Aside0.mk hlk
      clear hlk c0 c1 c2 c3 c4 hne
      have q0 : (0 : Int) ≤ (k : Int) := by omega
      by_cases h4 : x.f0 = 4
      · have t4 : (x.f0 == 4) = true := beq_iff_eq.2 h4
        have HW := Aside0.mk (show placeAt l ls (k + 1) = pk from by rw [placeAt, HP.out]; unfold width; rw [HX.out, if_pos h4]; omega)
        clear h4
        go_wp2
        go_roundw
        case rel => exact ⟨k + 1, qs.set k pk, by omega, by go_num, by rw [HW.out]; exact LC.out, fun j hj => by
          rw [set_getD (by have := LB.out.lp; rw [this]; exact hlt)]
          by_cases e : j = k
          · rw [if_pos e, e]; exact HP.out.symm
          · rw [if_neg e]; exact HZ.out j (by omega)⟩
        case measure => simp [intOf]; omega
      · have t4 : (x.f0 == 4) = false := beq_eq_false_iff_ne.2 h4
        cases lk with
        | true =>
          have HW := Aside0.mk (show placeAt l ls (k + 1) = pk + 3 from by rw [placeAt, HP.out]; unfold width; rw [HX.out, if_neg h4, HLK.out, if_pos rfl])
          clear h4
          go_wp2
          go_roundw
          case rel => exact ⟨k + 1, qs.set k pk, by omega, by go_num, by rw [HW.out]; exact hsz.out, fun j hj => by
            rw [set_getD (by have := LB.out.lp; rw [this]; exact hlt)]
            by_cases e : j = k
            · rw [if_pos e, e]; exact HP.out.symm
            · rw [if_neg e]; exact HZ.out j (by omega)⟩
          case measure => simp [intOf]; omega
        | false =>
          have HW := Aside0.mk (show placeAt l ls (k + 1) = pk + 1 from by rw [placeAt, HP.out]; unfold width; rw [HX.out, if_neg h4, HLK.out, if_neg (by decide)])
          clear h4
          go_wp2
          go_roundw
          case rel => exact ⟨k + 1, qs.set k pk, by omega, by go_num, by rw [HW.out]; exact hsz1.out, fun j hj => by
            rw [set_getD (by have := LB.out.lp; rw [this]; exact hlt)]
            by_cases e : j = k
            · rw [if_pos e, e]; exact HP.out.symm
            · rw [if_neg e]; exact HZ.out j (by omega)⟩
          case measure => simp [intOf]; omega
    · have e : k = l.length := by omega
      subst e
      have HQ := Aside0.mk (places_of L.out.lp HZ.out)
      go_wp2
      go_end0
      exact ⟨rfl, by rw [← HQ.out]; exact L.out⟩
end Go.Proofs.Ytmjpibeiglicdaa.EmitB
