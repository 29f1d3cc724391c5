/- record.Load: a word of a record, by its place in bytes; whatever the record and the place. -/
import Derived.Test.YtmjpibeiglicdaaProg
import Derived.WalkKit
import Derived.Laws.Rows
namespace Go.Proofs.Ytmjpibeiglicdaa.Rec
open Go.RowKit

def loadF (l : List Int) (a : Int) : Option (Int × Bool) := if 0 ≤ a then (if a ≥ 64 then some (0, false) else if a % 4 = 0 then some (l.getD (a / 4).toNat 0, true) else some (0, false)) else none

theorem under80 : Try.prog.underlying 80 = some (.array 16 36) := by kernel_rfl
theorem under36 : Try.prog.underlying 36 = some (.int .u32) := by kernel_rfl

set_option maxHeartbeats 4000000 in
set_option maxRecDepth 100000 in
theorem load_far (x0 x1 x2 x3 x4 x5 x6 x7 x8 x9 x10 x11 x12 x13 x14 x15 a : Int) (w : World) (h : 64 ≤ a) :
    Calls Try.prog 79 #[.agg #[.int .u32 x0, .int .u32 x1, .int .u32 x2, .int .u32 x3, .int .u32 x4, .int .u32 x5, .int .u32 x6, .int .u32 x7, .int .u32 x8, .int .u32 x9, .int .u32 x10, .int .u32 x11, .int .u32 x12, .int .u32 x13, .int .u32 x14, .int .u32 x15], .int .u32 a] w fun e w' => e = .returned (.tuple #[.int .u32 0, .bool false]) ∧ Below w.heap.size w w' := by
  go_enter Try.func79, Try.ntmps79
  go_wp2
  go_ret2
  exact ⟨rfl, (Below.refl _ _).alloc (Nat.le_refl _) _⟩

set_option maxHeartbeats 4000000 in
set_option maxRecDepth 100000 in
theorem load_odd (x0 x1 x2 x3 x4 x5 x6 x7 x8 x9 x10 x11 x12 x13 x14 x15 a : Int) (w : World) (h0 : 0 ≤ a) (h : a < 64) (hm : (a % 4 != 0) = true) :
    Calls Try.prog 79 #[.agg #[.int .u32 x0, .int .u32 x1, .int .u32 x2, .int .u32 x3, .int .u32 x4, .int .u32 x5, .int .u32 x6, .int .u32 x7, .int .u32 x8, .int .u32 x9, .int .u32 x10, .int .u32 x11, .int .u32 x12, .int .u32 x13, .int .u32 x14, .int .u32 x15], .int .u32 a] w fun e w' => e = .returned (.tuple #[.int .u32 0, .bool false]) ∧ Below w.heap.size w w' := by
  go_enter Try.func79, Try.ntmps79
  go_wp2
  go_ret2
  exact ⟨rfl, (Below.refl _ _).alloc (Nat.le_refl _) _⟩

set_option maxHeartbeats 4000000 in
set_option maxRecDepth 100000 in
theorem load_at0 (x0 x1 x2 x3 x4 x5 x6 x7 x8 x9 x10 x11 x12 x13 x14 x15 : Int) (w : World) :
    Calls Try.prog 79 #[.agg #[.int .u32 x0, .int .u32 x1, .int .u32 x2, .int .u32 x3, .int .u32 x4, .int .u32 x5, .int .u32 x6, .int .u32 x7, .int .u32 x8, .int .u32 x9, .int .u32 x10, .int .u32 x11, .int .u32 x12, .int .u32 x13, .int .u32 x14, .int .u32 x15], .int .u32 0] w fun e w' => e = .returned (.tuple #[.int .u32 x0, .bool true]) ∧ Below w.heap.size w w' := by
  go_enter Try.func79, Try.ntmps79
  go_wp2
  go_ret2
  exact ⟨rfl, (Below.refl _ _).alloc (Nat.le_refl _) _⟩

set_option maxHeartbeats 4000000 in
set_option maxRecDepth 100000 in
theorem load_at1 (x0 x1 x2 x3 x4 x5 x6 x7 x8 x9 x10 x11 x12 x13 x14 x15 : Int) (w : World) :
    Calls Try.prog 79 #[.agg #[.int .u32 x0, .int .u32 x1, .int .u32 x2, .int .u32 x3, .int .u32 x4, .int .u32 x5, .int .u32 x6, .int .u32 x7, .int .u32 x8, .int .u32 x9, .int .u32 x10, .int .u32 x11, .int .u32 x12, .int .u32 x13, .int .u32 x14, .int .u32 x15], .int .u32 4] w fun e w' => e = .returned (.tuple #[.int .u32 x1, .bool true]) ∧ Below w.heap.size w w' := by
  go_enter Try.func79, Try.ntmps79
  go_wp2
  go_ret2
  exact ⟨rfl, (Below.refl _ _).alloc (Nat.le_refl _) _⟩

set_option maxHeartbeats 4000000 in
set_option maxRecDepth 100000 in
theorem load_at2 (x0 x1 x2 x3 x4 x5 x6 x7 x8 x9 x10 x11 x12 x13 x14 x15 : Int) (w : World) :
    Calls Try.prog 79 #[.agg #[.int .u32 x0, .int .u32 x1, .int .u32 x2, .int .u32 x3, .int .u32 x4, .int .u32 x5, .int .u32 x6, .int .u32 x7, .int .u32 x8, .int .u32 x9, .int .u32 x10, .int .u32 x11, .int .u32 x12, .int .u32 x13, .int .u32 x14, .int .u32 x15], .int .u32 8] w fun e w' => e = .returned (.tuple #[.int .u32 x2, .bool true]) ∧ Below w.heap.size w w' := by
  go_enter Try.func79, Try.ntmps79
  go_wp2
  go_ret2
  exact ⟨rfl, (Below.refl _ _).alloc (Nat.le_refl _) _⟩

set_option maxHeartbeats 4000000 in
set_option maxRecDepth 100000 in
theorem load_at3 (x0 x1 x2 x3 x4 x5 x6 x7 x8 x9 x10 x11 x12 x13 x14 x15 : Int) (w : World) :
    Calls Try.prog 79 #[.agg #[.int .u32 x0, .int .u32 x1, .int .u32 x2, .int .u32 x3, .int .u32 x4, .int .u32 x5, .int .u32 x6, .int .u32 x7, .int .u32 x8, .int .u32 x9, .int .u32 x10, .int .u32 x11, .int .u32 x12, .int .u32 x13, .int .u32 x14, .int .u32 x15], .int .u32 12] w fun e w' => e = .returned (.tuple #[.int .u32 x3, .bool true]) ∧ Below w.heap.size w w' := by
  go_enter Try.func79, Try.ntmps79
  go_wp2
  go_ret2
  exact ⟨rfl, (Below.refl _ _).alloc (Nat.le_refl _) _⟩

set_option maxHeartbeats 4000000 in
set_option maxRecDepth 100000 in
theorem load_at4 (x0 x1 x2 x3 x4 x5 x6 x7 x8 x9 x10 x11 x12 x13 x14 x15 : Int) (w : World) :
    Calls Try.prog 79 #[.agg #[.int .u32 x0, .int .u32 x1, .int .u32 x2, .int .u32 x3, .int .u32 x4, .int .u32 x5, .int .u32 x6, .int .u32 x7, .int .u32 x8, .int .u32 x9, .int .u32 x10, .int .u32 x11, .int .u32 x12, .int .u32 x13, .int .u32 x14, .int .u32 x15], .int .u32 16] w fun e w' => e = .returned (.tuple #[.int .u32 x4, .bool true]) ∧ Below w.heap.size w w' := by
  go_enter Try.func79, Try.ntmps79
  go_wp2
  go_ret2
  exact ⟨rfl, (Below.refl _ _).alloc (Nat.le_refl _) _⟩

set_option maxHeartbeats 4000000 in
set_option maxRecDepth 100000 in
theorem load_at5 (x0 x1 x2 x3 x4 x5 x6 x7 x8 x9 x10 x11 x12 x13 x14 x15 : Int) (w : World) :
    Calls Try.prog 79 #[.agg #[.int .u32 x0, .int .u32 x1, .int .u32 x2, .int .u32 x3, .int .u32 x4, .int .u32 x5, .int .u32 x6, .int .u32 x7, .int .u32 x8, .int .u32 x9, .int .u32 x10, .int .u32 x11, .int .u32 x12, .int .u32 x13, .int .u32 x14, .int .u32 x15], .int .u32 20] w fun e w' => e = .returned (.tuple #[.int .u32 x5, .bool true]) ∧ Below w.heap.size w w' := by
  go_enter Try.func79, Try.ntmps79
  go_wp2
  go_ret2
  exact ⟨rfl, (Below.refl _ _).alloc (Nat.le_refl _) _⟩

set_option maxHeartbeats 4000000 in
set_option maxRecDepth 100000 in
theorem load_at6 (x0 x1 x2 x3 x4 x5 x6 x7 x8 x9 x10 x11 x12 x13 x14 x15 : Int) (w : World) :
    Calls Try.prog 79 #[.agg #[.int .u32 x0, .int .u32 x1, .int .u32 x2, .int .u32 x3, .int .u32 x4, .int .u32 x5, .int .u32 x6, .int .u32 x7, .int .u32 x8, .int .u32 x9, .int .u32 x10, .int .u32 x11, .int .u32 x12, .int .u32 x13, .int .u32 x14, .int .u32 x15], .int .u32 24] w fun e w' => e = .returned (.tuple #[.int .u32 x6, .bool true]) ∧ Below w.heap.size w w' := by
  go_enter Try.func79, Try.ntmps79
  go_wp2
  go_ret2
  exact ⟨rfl, (Below.refl _ _).alloc (Nat.le_refl _) _⟩

set_option maxHeartbeats 4000000 in
set_option maxRecDepth 100000 in
theorem load_at7 (x0 x1 x2 x3 x4 x5 x6 x7 x8 x9 x10 x11 x12 x13 x14 x15 : Int) (w : World) :
    Calls Try.prog 79 #[.agg #[.int .u32 x0, .int .u32 x1, .int .u32 x2, .int .u32 x3, .int .u32 x4, .int .u32 x5, .int .u32 x6, .int .u32 x7, .int .u32 x8, .int .u32 x9, .int .u32 x10, .int .u32 x11, .int .u32 x12, .int .u32 x13, .int .u32 x14, .int .u32 x15], .int .u32 28] w fun e w' => e = .returned (.tuple #[.int .u32 x7, .bool true]) ∧ Below w.heap.size w w' := by
  go_enter Try.func79, Try.ntmps79
  go_wp2
  go_ret2
  exact ⟨rfl, (Below.refl _ _).alloc (Nat.le_refl _) _⟩

set_option maxHeartbeats 4000000 in
set_option maxRecDepth 100000 in
theorem load_at8 (x0 x1 x2 x3 x4 x5 x6 x7 x8 x9 x10 x11 x12 x13 x14 x15 : Int) (w : World) :
    Calls Try.prog 79 #[.agg #[.int .u32 x0, .int .u32 x1, .int .u32 x2, .int .u32 x3, .int .u32 x4, .int .u32 x5, .int .u32 x6, .int .u32 x7, .int .u32 x8, .int .u32 x9, .int .u32 x10, .int .u32 x11, .int .u32 x12, .int .u32 x13, .int .u32 x14, .int .u32 x15], .int .u32 32] w fun e w' => e = .returned (.tuple #[.int .u32 x8, .bool true]) ∧ Below w.heap.size w w' := by
  go_enter Try.func79, Try.ntmps79
  go_wp2
  go_ret2
  exact ⟨rfl, (Below.refl _ _).alloc (Nat.le_refl _) _⟩

set_option maxHeartbeats 4000000 in
set_option maxRecDepth 100000 in
theorem load_at9 (x0 x1 x2 x3 x4 x5 x6 x7 x8 x9 x10 x11 x12 x13 x14 x15 : Int) (w : World) :
    Calls Try.prog 79 #[.agg #[.int .u32 x0, .int .u32 x1, .int .u32 x2, .int .u32 x3, .int .u32 x4, .int .u32 x5, .int .u32 x6, .int .u32 x7, .int .u32 x8, .int .u32 x9, .int .u32 x10, .int .u32 x11, .int .u32 x12, .int .u32 x13, .int .u32 x14, .int .u32 x15], .int .u32 36] w fun e w' => e = .returned (.tuple #[.int .u32 x9, .bool true]) ∧ Below w.heap.size w w' := by
  go_enter Try.func79, Try.ntmps79
  go_wp2
  go_ret2
  exact ⟨rfl, (Below.refl _ _).alloc (Nat.le_refl _) _⟩

set_option maxHeartbeats 4000000 in
set_option maxRecDepth 100000 in
theorem load_at10 (x0 x1 x2 x3 x4 x5 x6 x7 x8 x9 x10 x11 x12 x13 x14 x15 : Int) (w : World) :
    Calls Try.prog 79 #[.agg #[.int .u32 x0, .int .u32 x1, .int .u32 x2, .int .u32 x3, .int .u32 x4, .int .u32 x5, .int .u32 x6, .int .u32 x7, .int .u32 x8, .int .u32 x9, .int .u32 x10, .int .u32 x11, .int .u32 x12, .int .u32 x13, .int .u32 x14, .int .u32 x15], .int .u32 40] w fun e w' => e = .returned (.tuple #[.int .u32 x10, .bool true]) ∧ Below w.heap.size w w' := by
  go_enter Try.func79, Try.ntmps79
  go_wp2
  go_ret2
  exact ⟨rfl, (Below.refl _ _).alloc (Nat.le_refl _) _⟩

set_option maxHeartbeats 4000000 in
set_option maxRecDepth 100000 in
theorem load_at11 (x0 x1 x2 x3 x4 x5 x6 x7 x8 x9 x10 x11 x12 x13 x14 x15 : Int) (w : World) :
    Calls Try.prog 79 #[.agg #[.int .u32 x0, .int .u32 x1, .int .u32 x2, .int .u32 x3, .int .u32 x4, .int .u32 x5, .int .u32 x6, .int .u32 x7, .int .u32 x8, .int .u32 x9, .int .u32 x10, .int .u32 x11, .int .u32 x12, .int .u32 x13, .int .u32 x14, .int .u32 x15], .int .u32 44] w fun e w' => e = .returned (.tuple #[.int .u32 x11, .bool true]) ∧ Below w.heap.size w w' := by
  go_enter Try.func79, Try.ntmps79
  go_wp2
  go_ret2
  exact ⟨rfl, (Below.refl _ _).alloc (Nat.le_refl _) _⟩

set_option maxHeartbeats 4000000 in
set_option maxRecDepth 100000 in
theorem load_at12 (x0 x1 x2 x3 x4 x5 x6 x7 x8 x9 x10 x11 x12 x13 x14 x15 : Int) (w : World) :
    Calls Try.prog 79 #[.agg #[.int .u32 x0, .int .u32 x1, .int .u32 x2, .int .u32 x3, .int .u32 x4, .int .u32 x5, .int .u32 x6, .int .u32 x7, .int .u32 x8, .int .u32 x9, .int .u32 x10, .int .u32 x11, .int .u32 x12, .int .u32 x13, .int .u32 x14, .int .u32 x15], .int .u32 48] w fun e w' => e = .returned (.tuple #[.int .u32 x12, .bool true]) ∧ Below w.heap.size w w' := by
  go_enter Try.func79, Try.ntmps79
  go_wp2
  go_ret2
  exact ⟨rfl, (Below.refl _ _).alloc (Nat.le_refl _) _⟩

set_option maxHeartbeats 4000000 in
set_option maxRecDepth 100000 in
theorem load_at13 (x0 x1 x2 x3 x4 x5 x6 x7 x8 x9 x10 x11 x12 x13 x14 x15 : Int) (w : World) :
    Calls Try.prog 79 #[.agg #[.int .u32 x0, .int .u32 x1, .int .u32 x2, .int .u32 x3, .int .u32 x4, .int .u32 x5, .int .u32 x6, .int .u32 x7, .int .u32 x8, .int .u32 x9, .int .u32 x10, .int .u32 x11, .int .u32 x12, .int .u32 x13, .int .u32 x14, .int .u32 x15], .int .u32 52] w fun e w' => e = .returned (.tuple #[.int .u32 x13, .bool true]) ∧ Below w.heap.size w w' := by
  go_enter Try.func79, Try.ntmps79
  go_wp2
  go_ret2
  exact ⟨rfl, (Below.refl _ _).alloc (Nat.le_refl _) _⟩

set_option maxHeartbeats 4000000 in
set_option maxRecDepth 100000 in
theorem load_at14 (x0 x1 x2 x3 x4 x5 x6 x7 x8 x9 x10 x11 x12 x13 x14 x15 : Int) (w : World) :
    Calls Try.prog 79 #[.agg #[.int .u32 x0, .int .u32 x1, .int .u32 x2, .int .u32 x3, .int .u32 x4, .int .u32 x5, .int .u32 x6, .int .u32 x7, .int .u32 x8, .int .u32 x9, .int .u32 x10, .int .u32 x11, .int .u32 x12, .int .u32 x13, .int .u32 x14, .int .u32 x15], .int .u32 56] w fun e w' => e = .returned (.tuple #[.int .u32 x14, .bool true]) ∧ Below w.heap.size w w' := by
  go_enter Try.func79, Try.ntmps79
  go_wp2
  go_ret2
  exact ⟨rfl, (Below.refl _ _).alloc (Nat.le_refl _) _⟩

set_option maxHeartbeats 4000000 in
set_option maxRecDepth 100000 in
theorem load_at15 (x0 x1 x2 x3 x4 x5 x6 x7 x8 x9 x10 x11 x12 x13 x14 x15 : Int) (w : World) :
    Calls Try.prog 79 #[.agg #[.int .u32 x0, .int .u32 x1, .int .u32 x2, .int .u32 x3, .int .u32 x4, .int .u32 x5, .int .u32 x6, .int .u32 x7, .int .u32 x8, .int .u32 x9, .int .u32 x10, .int .u32 x11, .int .u32 x12, .int .u32 x13, .int .u32 x14, .int .u32 x15], .int .u32 60] w fun e w' => e = .returned (.tuple #[.int .u32 x15, .bool true]) ∧ Below w.heap.size w w' := by
  go_enter Try.func79, Try.ntmps79
  go_wp2
  go_ret2
  exact ⟨rfl, (Below.refl _ _).alloc (Nat.le_refl _) _⟩

theorem load_calls (x0 x1 x2 x3 x4 x5 x6 x7 x8 x9 x10 x11 x12 x13 x14 x15 a : Int) (r1 : Int) (r2 : Bool) (w : World) (h : loadF [x0, x1, x2, x3, x4, x5, x6, x7, x8, x9, x10, x11, x12, x13, x14, x15] a = some (r1, r2)) :
    Calls Try.prog 79 #[.agg #[.int .u32 x0, .int .u32 x1, .int .u32 x2, .int .u32 x3, .int .u32 x4, .int .u32 x5, .int .u32 x6, .int .u32 x7, .int .u32 x8, .int .u32 x9, .int .u32 x10, .int .u32 x11, .int .u32 x12, .int .u32 x13, .int .u32 x14, .int .u32 x15], .int .u32 a] w fun e w' => e = .returned (.tuple #[.int .u32 r1, .bool r2]) ∧ Below w.heap.size w w' := by
  unfold loadF at h
  by_cases c0 : 0 ≤ a
  · rw [if_pos c0] at h
    by_cases c1 : a ≥ 64
    · rw [if_pos c1] at h
      obtain ⟨rfl, rfl⟩ := Prod.mk.inj (Option.some.inj h)
      exact load_far x0 x1 x2 x3 x4 x5 x6 x7 x8 x9 x10 x11 x12 x13 x14 x15 a w c1
    · rw [if_neg c1] at h
      by_cases c2 : a % 4 = 0
      · rw [if_pos c2] at h
        obtain ⟨rfl, rfl⟩ := Prod.mk.inj (Option.some.inj h)
        obtain rfl | rfl | rfl | rfl | rfl | rfl | rfl | rfl | rfl | rfl | rfl | rfl | rfl | rfl | rfl | rfl : a = 0 ∨ a = 4 ∨ a = 8 ∨ a = 12 ∨ a = 16 ∨ a = 20 ∨ a = 24 ∨ a = 28 ∨ a = 32 ∨ a = 36 ∨ a = 40 ∨ a = 44 ∨ a = 48 ∨ a = 52 ∨ a = 56 ∨ a = 60 := by omega
        · exact load_at0 x0 x1 x2 x3 x4 x5 x6 x7 x8 x9 x10 x11 x12 x13 x14 x15 w
        · exact load_at1 x0 x1 x2 x3 x4 x5 x6 x7 x8 x9 x10 x11 x12 x13 x14 x15 w
        · exact load_at2 x0 x1 x2 x3 x4 x5 x6 x7 x8 x9 x10 x11 x12 x13 x14 x15 w
        · exact load_at3 x0 x1 x2 x3 x4 x5 x6 x7 x8 x9 x10 x11 x12 x13 x14 x15 w
        · exact load_at4 x0 x1 x2 x3 x4 x5 x6 x7 x8 x9 x10 x11 x12 x13 x14 x15 w
        · exact load_at5 x0 x1 x2 x3 x4 x5 x6 x7 x8 x9 x10 x11 x12 x13 x14 x15 w
        · exact load_at6 x0 x1 x2 x3 x4 x5 x6 x7 x8 x9 x10 x11 x12 x13 x14 x15 w
        · exact load_at7 x0 x1 x2 x3 x4 x5 x6 x7 x8 x9 x10 x11 x12 x13 x14 x15 w
        · exact load_at8 x0 x1 x2 x3 x4 x5 x6 x7 x8 x9 x10 x11 x12 x13 x14 x15 w
        · exact load_at9 x0 x1 x2 x3 x4 x5 x6 x7 x8 x9 x10 x11 x12 x13 x14 x15 w
        · exact load_at10 x0 x1 x2 x3 x4 x5 x6 x7 x8 x9 x10 x11 x12 x13 x14 x15 w
        · exact load_at11 x0 x1 x2 x3 x4 x5 x6 x7 x8 x9 x10 x11 x12 x13 x14 x15 w
        · exact load_at12 x0 x1 x2 x3 x4 x5 x6 x7 x8 x9 x10 x11 x12 x13 x14 x15 w
        · exact load_at13 x0 x1 x2 x3 x4 x5 x6 x7 x8 x9 x10 x11 x12 x13 x14 x15 w
        · exact load_at14 x0 x1 x2 x3 x4 x5 x6 x7 x8 x9 x10 x11 x12 x13 x14 x15 w
        · exact load_at15 x0 x1 x2 x3 x4 x5 x6 x7 x8 x9 x10 x11 x12 x13 x14 x15 w
      · rw [if_neg c2] at h
        obtain ⟨rfl, rfl⟩ := Prod.mk.inj (Option.some.inj h)
        exact load_odd x0 x1 x2 x3 x4 x5 x6 x7 x8 x9 x10 x11 x12 x13 x14 x15 a w c0 (by omega) (bne_iff_ne.2 c2)
  · rw [if_neg c0] at h
    cases h

end Go.Proofs.Ytmjpibeiglicdaa.Rec
