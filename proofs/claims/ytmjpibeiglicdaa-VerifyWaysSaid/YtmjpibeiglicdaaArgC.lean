/- An argument that is a slice of bool, opened as the contracts want it. -/
import Derived.Test.YtmjpibeiglicdaaArgs
namespace Go.Proofs.Ytmjpibeiglicdaa.X
open Go.ChangeShapes Go.WideShapes Go.Deep Go.RowKit Go.Proofs.YtmjpibeiglicdaaW.PrintWords
theorem under54 : Try.prog.underlying 54 = some (.slice 4) := by kernel_rfl
theorem under4b : Try.prog.underlying 4 = some .bool := by kernel_rfl
theorem cells4 : Try.prog.cellsOf 4 = 1 := by kernel_rfl
set_option maxRecDepth 100000 in
theorem open54 {H : Type} {enc : TypeId × Value → H} {W : World} {r : Reach} {b0 : Nat} {v : Value} {d : DataW H} {p : List MemPlace} (hv : Value.okWide Try.prog W r b0 54 v) (h : DataW.Trod enc Try.prog W 0 (fun _ => true) true 54 v d p) :
    ∃ (A : Option Addr) (c : Nat) (l : List Bool), v = .slice A l.length c ∧ l.length ≤ c ∧ c ≤ maxLen ∧ Kd.C Kd.bool W A l.length l ∧ True := by
  obtain ⟨a, len, cap, rfl⟩ := okWide_slice under54 hv
  obtain ⟨fuel, hf⟩ := h
  rcases open_slice under54 hf with ⟨hcs, _⟩ | ⟨a', len', cap', m, n, D, Pl, hcs, _, hl, hm, hmm, _, hi⟩
  · simp [Value.cells] at hcs
    obtain ⟨rfl, rfl, rfl⟩ := hcs
    exact ⟨none, 0, [], rfl, Nat.le_refl _, Nat.zero_le _, ⟨rfl, Nat.zero_le _, fun h0 => absurd h0 (by simp)⟩, trivial⟩
  · simp [Value.cells] at hcs
    obtain ⟨rfl, rfl, rfl⟩ := hcs
    have hlm : len ≤ m := by rw [hmm]; simpa using hl
    have hb : ∀ i, i < len → ∃ b : Bool, W.cell? (a'.add (i * 1)) = some (.bool b) := by
      intro i hil
      obtain ⟨cs', hc, ht'⟩ := hi i (by omega)
      rw [cells4] at hc
      obtain ⟨b, rfl, _⟩ := DataW.trod_bool under4b ht'
      obtain ⟨_, hcl, hat⟩ := World.cells?_some hc
      have := hat 0 (by omega)
      exact ⟨b, by simpa [Addr.add] using this⟩
    obtain ⟨f, hF⟩ := choose_lt hb
    have hlen : ((List.range len).map f).length = len := by simp
    refine ⟨some a', cap, (List.range len).map f, by rw [hlen], by rw [hlen]; exact hl, hm, ⟨rfl, by rw [hlen]; unfold maxLen at hm; omega, fun _ => ⟨a', rfl, fun j x hx => ?_⟩⟩, trivial⟩
    have hj : j < len := by have := (List.getElem?_eq_some_iff.1 hx).1; rwa [hlen] at this
    obtain rfl : f j = x := by simpa [hj] using hx
    refine ⟨[.bool (f j)], rfl, rfl, fun i u hu => ?_⟩
    match i, hu with
    | 0, hu => obtain rfl := Option.some.inj hu; exact hF j hj
    | i + 1, hu => simp at hu
end Go.Proofs.Ytmjpibeiglicdaa.X
