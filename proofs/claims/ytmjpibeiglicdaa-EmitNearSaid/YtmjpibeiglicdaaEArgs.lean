/- Arguments that are slices of structs, opened as the contracts want them. -/
import Derived.Deep.Slices
import Derived.Deep.Fields
import Derived.ChangeSame
import Derived.RowKit
import Derived.Test.YtmjpibeiglicdaaE0
namespace Go.Proofs.Ytmjpibeiglicdaa.E
open Go.ChangeShapes Go.WideShapes Go.Deep Go.RowKit Go.Proofs.YtmjpibeiglicdaaU.PrintWords
section
variable {H : Type} {enc : TypeId × Value → H} {P : Program} {w : World} {base : Nat} {spare : Nat → Bool} {held : Bool}
theorem open_slice_fields {t e : TypeId} {fs : Array Field} {fuel : Nat} {cs : List Value} {x : DataW H × List MemPlace} (ht : P.underlying t = some (.slice e)) (he : P.underlying e = some (.struct fs))
    (hone : oneCellFields P fs = true) (hC : P.cellsOf e = fs.size) (h : DataW.trod enc P w base spare held fuel t cs = some x) :
    (cs = [.slice none 0 0] ∧ x = (.nil, [])) ∨
    ∃ (a : Addr) (len cap m : Nat) (D : Nat → DataW H) (Pl : Nat → List MemPlace), cs = [.slice (some a) len cap] ∧ base ≤ a.block ∧ len ≤ cap ∧ cap ≤ maxLen ∧ m = (if spare a.block then cap else len) ∧
      x = (.slice ((List.range len).map D) ((List.range (m - len)).map fun j => D (len + j)), MemPlace.row a (m * fs.size) ++ (List.range m).flatMap Pl) ∧
      ∀ i, i < m → ∃ (ys : List (DataW H × List MemPlace)) (n : Nat), D i = .agg (ys.map (·.1)) ∧ Pl i = ys.flatMap (·.2) ∧ ys.length = fs.size ∧
        ∀ (j : Nat) (f : Field), fs[j]? = some f → ∃ (v : Value) (y : DataW H × List MemPlace), w.cell? (a.add (i * fs.size + j)) = some v ∧ ys[j]? = some y ∧ DataW.trod enc P w base spare held n f.type [v] = some y := by
  rcases open_slice ht h with h0 | ⟨a, len, cap, m, n, D, Pl, hcs, hb, hl, hm, hmm, hx, hi⟩
  · exact .inl h0
  · refine .inr ⟨a, len, cap, m, D, Pl, hcs, hb, hl, hm, hmm, by rw [hC] at hx; exact hx, fun i him => ?_⟩
    obtain ⟨cs', hc, ht'⟩ := hi i him
    rw [hC] at hc
    obtain ⟨ys, n', hn', hy, hlen, hyl, hf⟩ := DataW.trod_struct he ht'
    obtain ⟨_, hcl, hat⟩ := World.cells?_some hc
    simp only [Prod.mk.injEq] at hy
    refine ⟨ys, n', hy.1, hy.2, hyl, fun j f hj => ?_⟩
    obtain ⟨ho, hk⟩ := hone_of hone j f hj
    have hjl : j < fs.size := (Array.getElem?_eq_some_iff.1 hj).1
    have hcell := hat j hjl
    have hv : cs'[j]? = some (cs'[j]'(by omega)) := List.getElem?_eq_getElem (by omega)
    have h1 := hf j f hj
    rw [ho, hk] at h1
    have hone' : (cs'.drop j).take 1 = [cs'[j]'(by omega)] := by
      rw [List.drop_eq_getElem_cons (by omega)]
      rfl
    rw [hone'] at h1
    have hys : ys[j]? = some (ys[j]'(by omega)) := List.getElem?_eq_getElem (by omega)
    refine ⟨_, _, ?_, hys, h1.trans hys⟩
    rw [← Go.Deep.add_add, hcell, hv]
end

def Wf40 (x : S40) : Prop := (Lit.int .i64 x.f0).wf = true ∧ (Lit.int .u16 x.f1).wf = true ∧ (Lit.int .u32 x.f2).wf = true ∧ (Lit.int .i64 x.f3).wf = true ∧ (Lit.int .i64 x.f4).wf = true
theorem under24 : Try.prog.underlying 24 = some (.slice 40) := by kernel_rfl
theorem underOf40_3 : Try.prog.underlying 3 = some (.int .i64) := by kernel_rfl
theorem underOf40_35 : Try.prog.underlying 35 = some (.int .u16) := by kernel_rfl
theorem underOf40_36 : Try.prog.underlying 36 = some (.int .u32) := by kernel_rfl
theorem cells40 : Try.prog.cellsOf 40 = 5 := by kernel_rfl
theorem fields40 : ∃ fs, Try.prog.underlying 40 = some (.struct fs) ∧ fs.size = 5 ∧ oneCellFields Try.prog fs = true ∧ (∃ f, fs[0]? = some f ∧ f.type = 3) ∧ (∃ f, fs[1]? = some f ∧ f.type = 35) ∧ (∃ f, fs[2]? = some f ∧ f.type = 36) ∧ (∃ f, fs[3]? = some f ∧ f.type = 3) ∧ (∃ f, fs[4]? = some f ∧ f.type = 3) := ⟨_, Try.underlying40, rfl, by kernel_rfl, ⟨_, rfl, rfl⟩, ⟨_, rfl, rfl⟩, ⟨_, rfl, rfl⟩, ⟨_, rfl, rfl⟩, ⟨_, rfl, rfl⟩⟩
theorem at40 {H : Type} {enc : TypeId × Value → H} {W : World} {m len : Nat} {a : Addr} {fs : Array Field} {D : Nat → DataW H} {Pl : Nat → List MemPlace} (hl : len ≤ m) (hs : fs.size = 5) (hft : (∃ f, fs[0]? = some f ∧ f.type = 3) ∧ (∃ f, fs[1]? = some f ∧ f.type = 35) ∧ (∃ f, fs[2]? = some f ∧ f.type = 36) ∧ (∃ f, fs[3]? = some f ∧ f.type = 3) ∧ (∃ f, fs[4]? = some f ∧ f.type = 3))
    (hf : ∀ i, i < m → ∃ (ys : List (DataW H × List MemPlace)) (n : Nat), D i = .agg (ys.map (·.1)) ∧ Pl i = ys.flatMap (·.2) ∧ ys.length = fs.size ∧
        ∀ (j : Nat) (f : Field), fs[j]? = some f → ∃ (v : Value) (y : DataW H × List MemPlace), W.cell? (a.add (i * fs.size + j)) = some v ∧ ys[j]? = some y ∧ DataW.trod enc Try.prog W 0 (fun _ => true) true n f.type [v] = some y) :
    ∀ i, i < len → ∃ x : S40, Wf40 x ∧ ∀ (j : Nat) (u : Value), ([.int .i64 x.f0, .int .u16 x.f1, .int .u32 x.f2, .int .i64 x.f3, .int .i64 x.f4] : List Value)[j]? = some u → W.cell? (a.add (i * 5 + j)) = some u := by
  intro i hi
  obtain ⟨ys, n, _, _, _, h⟩ := hf i (by omega)
  obtain ⟨⟨f0, hf0, ht0⟩, ⟨f1, hf1, ht1⟩, ⟨f2, hf2, ht2⟩, ⟨f3, hf3, ht3⟩, ⟨f4, hf4, ht4⟩⟩ := hft
  obtain ⟨v0, y0, c0, _, t0⟩ := h 0 f0 hf0
  rw [ht0] at t0
  obtain ⟨x0, e0, _, w0⟩ := DataW.trod_int underOf40_3 t0
  obtain rfl := (List.cons.inj e0).1
  obtain ⟨v1, y1, c1, _, t1⟩ := h 1 f1 hf1
  rw [ht1] at t1
  obtain ⟨x1, e1, _, w1⟩ := DataW.trod_int underOf40_35 t1
  obtain rfl := (List.cons.inj e1).1
  obtain ⟨v2, y2, c2, _, t2⟩ := h 2 f2 hf2
  rw [ht2] at t2
  obtain ⟨x2, e2, _, w2⟩ := DataW.trod_int underOf40_36 t2
  obtain rfl := (List.cons.inj e2).1
  obtain ⟨v3, y3, c3, _, t3⟩ := h 3 f3 hf3
  rw [ht3] at t3
  obtain ⟨x3, e3, _, w3⟩ := DataW.trod_int underOf40_3 t3
  obtain rfl := (List.cons.inj e3).1
  obtain ⟨v4, y4, c4, _, t4⟩ := h 4 f4 hf4
  rw [ht4] at t4
  obtain ⟨x4, e4, _, w4⟩ := DataW.trod_int underOf40_3 t4
  obtain rfl := (List.cons.inj e4).1
  rw [hs] at c0 c1 c2 c3 c4
  refine ⟨⟨x0, x1, x2, x3, x4⟩, ⟨w0, w1, w2, w3, w4⟩, fun j u hu => ?_⟩
  match j, hu with
  | 0, hu => obtain rfl := Option.some.inj hu; exact c0
  | 1, hu => obtain rfl := Option.some.inj hu; exact c1
  | 2, hu => obtain rfl := Option.some.inj hu; exact c2
  | 3, hu => obtain rfl := Option.some.inj hu; exact c3
  | 4, hu => obtain rfl := Option.some.inj hu; exact c4
  | j + 5, hu => simp at hu
instance : Inhabited S40 := ⟨z40⟩
set_option maxRecDepth 100000 in
theorem open24 {H : Type} {enc : TypeId × Value → H} {W : World} {r : Reach} {b0 : Nat} {v : Value} {d : DataW H} {p : List MemPlace} (hv : Value.okWide Try.prog W r b0 24 v) (h : DataW.Trod enc Try.prog W 0 (fun _ => true) true 24 v d p) :
    ∃ (A : Option Addr) (c : Nat) (l : List S40), v = .slice A l.length c ∧ l.length ≤ c ∧ c ≤ maxLen ∧ Kd.C k40 W A l.length l ∧ ∀ x ∈ l, Wf40 x := by
  obtain ⟨a, len, cap, rfl⟩ := okWide_slice under24 hv
  obtain ⟨fuel, hf⟩ := h
  obtain ⟨fs, hu, hs, ho, hft⟩ := fields40
  rcases open_slice_fields under24 hu ho (cells40.trans hs.symm) hf with ⟨hcs, _⟩ | ⟨a', len', cap', m, D, Pl, hcs, _, hl, hm, hmm, _, hi⟩
  · simp [Value.cells] at hcs
    obtain ⟨rfl, rfl, rfl⟩ := hcs
    exact ⟨none, 0, [], rfl, Nat.le_refl _, Nat.zero_le _, ⟨rfl, Nat.zero_le _, fun h0 => absurd h0 (by simp)⟩, fun x hx => by simp at hx⟩
  · simp [Value.cells] at hcs
    obtain ⟨rfl, rfl, rfl⟩ := hcs
    have hlm : len ≤ m := by rw [hmm]; simpa using hl
    obtain ⟨f, hF⟩ := choose_lt (at40 hlm hs hft hi)
    have hlen : ((List.range len).map f).length = len := by simp
    refine ⟨some a', cap, (List.range len).map f, by rw [hlen], by rw [hlen]; exact hl, hm, ⟨rfl, by rw [hlen]; unfold maxLen at hm; omega, fun _ => ⟨a', rfl, fun j x hx => ?_⟩⟩, fun x hx => ?_⟩
    · have hj : j < len := by have := (List.getElem?_eq_some_iff.1 hx).1; rwa [hlen] at this
      obtain rfl : f j = x := by simpa [hj] using hx
      exact ⟨_, rfl, k40_mk W (f j), fun i u hu => (hF j hj).2 i u hu⟩
    · obtain ⟨j, hj, rfl⟩ := List.mem_map.1 hx
      exact (hF j (by simpa using hj)).1

end Go.Proofs.Ytmjpibeiglicdaa.E
