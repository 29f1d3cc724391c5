/- code.Kind: the kind of each of the 65536 codes. -/
import Derived.Test.YtmjpibeiglicdaaTable
namespace Go.Proofs.Ytmjpibeiglicdaa.Code
open Go.RowKit

/-- The kind of a code: 0, where there is no such code. -/
def kindOf (c : Int) : Int := ((codes.find? fun p => c == p.1).map fun p => p.2.1).getD 0
def nameOf (c : Int) : List UInt8 := ((codes.find? fun p => c == p.1).map fun p => p.2.2).getD []
theorem find_codes (c : Int) : ∀ (l : List (Int × Int × List UInt8)) (n i : Nat), ∃ f, Instr.findNow (.int .u16) (.int .u16 c) (entries l n) i = some f ∧
    ((f.map (·.2)).getD (.agg #[.int .i64 0, .string ⟨#[]⟩])) = entryV (c, ((l.find? fun p => c == p.1).map fun p => p.2.1).getD 0, ((l.find? fun p => c == p.1).map fun p => p.2.2).getD [])
  | [], n, i => ⟨none, rfl, rfl⟩
  | p :: r, n, i => by
    by_cases h : (c == p.1) = true
    · exact ⟨some (i, entryV p), by simp [entries, Instr.findNow, Instr.sameNow, h], by simp [List.find?, h, entryV]⟩
    · have h' : (c == p.1) = false := by simpa using h
      obtain ⟨f, h1, h2⟩ := find_codes c r (n + 1) (i + 1)
      exact ⟨f, by simp only [entries, Instr.findNow, Instr.sameNow, if_true, h']; exact h1, by rw [h2]; simp only [List.find?, h']⟩
theorem run_field0 (K : Int) (N : ByteArray) (W : World) : (Instr.field 152 (.agg #[.int .i64 K, .string N]) 0).run Try.prog W = .ok (.int .i64 K) W := by kernel_rfl
theorem run_kind (W : World) (b : Nat) (hb : W.heap[b]? = some (.map (entries codes 0).toArray 41)) (c : Int) :
    (Instr.lookup 153 (.map (some b)) (.int .u16 c) false).run Try.prog W = .ok (.agg #[.int .i64 (kindOf c), .string ⟨(nameOf c).toArray⟩]) W := by
  obtain ⟨f, h1, h2⟩ := find_codes c codes 0 0
  have := run_lookup_found u153 u35 hb (zero152 W) c f (by simpa using h1)
  rw [this]
  exact congrArg (fun v => Result.ok v W) h2

set_option maxHeartbeats 4000000 in
set_option maxRecDepth 100000 in
theorem kind_calls (c : Int) (w : World) : Calls Try.prog 78 #[.int .u16 c] w fun e w' => e = .returned (.int .i64 (kindOf c)) ∧ Below w.heap.size w w' := by
  have hk : ∀ W : World, W.heap[w.heap.size]? = some (.map (entries codes 0).toArray 41) → (Instr.lookup 153 (.map (some w.heap.size)) (.int .u16 c) false).run Try.prog W = .ok (.agg #[.int .i64 (kindOf c), .string ⟨(nameOf c).toArray⟩]) W :=
    fun W hb => run_kind W _ hb c
  have hk2 := hk (w.alloc (.map (entries codes 0).toArray 41)) (MapKept.heap_alloc w _).1
  clear hk
  obtain ⟨T, hT⟩ : ∃ T, T = (entries codes 0).toArray := ⟨_, rfl⟩
  have ht : Calls Try.prog 103 #[] w fun e w' => e = .returned (.map (some w.heap.size)) ∧ w.alloc (.map T 41) = w' := (table_calls w).mono fun e w' h => ⟨h.1, by rw [h.2, hT]⟩
  rw [← hT] at hk2
  obtain ⟨K, hK⟩ : ∃ K, K = kindOf c := ⟨_, rfl⟩
  obtain ⟨N, hN⟩ : ∃ N : ByteArray, N = ⟨(nameOf c).toArray⟩ := ⟨_, rfl⟩
  rw [← hK, ← hN] at hk2
  rw [← hK]
  have hf := run_field0 K N (w.alloc (.map T 41))
  clear hT hK hN
  go_enter Try.func78, Try.ntmps78
  go_wp2_with (go_at_call 103; refine ht.mono ?_; rintro e w' ⟨rfl, rfl⟩)
  go_ret
  exact ⟨rfl, (Below.refl _ _).alloc (Nat.le_refl _) _⟩

end Go.Proofs.Ytmjpibeiglicdaa.Code
