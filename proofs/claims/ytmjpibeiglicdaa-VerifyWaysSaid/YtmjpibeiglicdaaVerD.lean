/- Plain laws of layer 6: what is bare at a place is settled when the place is reached; a way through a filter. -/
import Derived.Test.YtmjpibeiglicdaaVerC
namespace Go.Proofs.Ytmjpibeiglicdaa.Ver
open Go.RowKit Go.Proofs.Ytmjpibeiglicdaa.X Go.Proofs.YtmjpibeiglicdaaW.PrintWords Go.Proofs.YtmjpibeiglicdaaW.PrintLast Go.Proofs.YtmjpibeiglicdaaW.PrintMore
open Go.Proofs.Ytmjpibeiglicdaa.Code (kindOf codes)

theorem getD_set_ne {b : List Bool} {t j : Nat} (h : t ≠ j) : (b.set t true).getD j false = b.getD j false := by
  rw [List.getD_eq_getElem?_getD, List.getElem?_set_ne h, List.getD_eq_getElem?_getD]
theorem getD_set_mono {b : List Bool} {t j : Nat} (h : b.getD j false = true) : (b.set t true).getD j false = true := by
  by_cases e : t = j
  · subst e
    have : t < b.length := by
      by_cases c : t < b.length
      · exact c
      · rw [List.getD_eq_getElem?_getD, List.getElem?_eq_none (by omega)] at h; simp at h
    rw [List.getD_eq_getElem?_getD, List.getElem?_set_self this]; rfl
  · rw [getD_set_ne e]; exact h
theorem setT_mono (n : Nat) (j : Nat) : ∀ (ts : List Nat) (b : List Bool), b.getD j false = true → (setT n b ts).getD j false = true
  | [], b, h => h
  | t :: r, b, h => by
    rw [setT]
    by_cases c : t < n
    · rw [if_pos c]; exact setT_mono n j r _ (getD_set_mono h)
    · rw [if_neg c]; exact setT_mono n j r _ h
theorem setT_mem (n : Nat) (t : Nat) (ht : t < n) : ∀ (ts : List Nat) (b : List Bool), b.length = n → t ∈ ts → (setT n b ts).getD t false = true
  | [], b, _, h => by simp at h
  | u :: r, b, hb, h => by
    rw [setT]
    rcases List.mem_cons.1 h with rfl | h
    · rw [if_pos ht]
      refine setT_mono n t r _ ?_
      rw [List.getD_eq_getElem?_getD, List.getElem?_set_self (by omega)]; rfl
    · by_cases c : u < n
      · rw [if_pos c]; exact setT_mem n t ht r _ (by rw [List.length_set]; exact hb) h
      · rw [if_neg c]; exact setT_mem n t ht r _ hb h
theorem setT_other (n : Nat) (j : Nat) : ∀ (ts : List Nat) (b : List Bool), j ∉ ts → (setT n b ts).getD j false = b.getD j false
  | [], b, _ => rfl
  | t :: r, b, h => by
    have hne : t ≠ j := fun e => h (e ▸ List.mem_cons_self)
    have hr : j ∉ r := fun e => h (List.mem_cons_of_mem _ e)
    rw [setT]
    by_cases c : t < n
    · rw [if_pos c, setT_other n j r _ hr, getD_set_ne hne]
    · rw [if_neg c, setT_other n j r _ hr]
theorem tgt_gt (l : List S56) (i : Nat) : ∀ t ∈ tgt l i, i < t := by
  intro t ht
  unfold tgt at ht
  obtain ⟨j, _, rfl⟩ := List.mem_map.1 ht
  omega
theorem bare_mono (l : List S56) (w j : Nat) (i : Nat) : ∀ d, (bareS l w i).getD j false = true → (bareS l w (i + d)).getD j false = true
  | 0, h => h
  | d + 1, h => by
    have ih := bare_mono l w j i d h
    rw [← Nat.add_assoc, bareS]
    by_cases c : (bareS l w (i + d)).getD (i + d) false = true ∧ st l w (i + d) = false
    · rw [if_pos c]; exact setT_mono _ _ _ _ ih
    · rw [if_neg c]; exact ih
theorem bare_fixed (l : List S56) (w j : Nat) : ∀ d, (bareS l w (j + d)).getD j false = (bareS l w j).getD j false
  | 0 => rfl
  | d + 1 => by
    have ih := bare_fixed l w j d
    rw [← Nat.add_assoc, bareS]
    by_cases c : (bareS l w (j + d)).getD (j + d) false = true ∧ st l w (j + d) = false
    · rw [if_pos c, setT_other _ _ _ _ (fun h => by have := tgt_gt l (j + d) j h; omega)]; exact ih
    · rw [if_neg c]; exact ih
/-- The first place is bare of each word. -/
theorem bare_first (l : List S56) (w : Nat) (h : 0 < l.length) : (bareS l w l.length).getD 0 false = true := by
  have := bare_fixed l w 0 l.length
  rw [Nat.zero_add] at this
  rw [this, bareS, List.getD_eq_getElem?_getD, List.getElem?_set_self (by simpa using h)]; rfl
/-- What is bare at a place that doesn't store the word is bare where the place goes on. -/
theorem bare_next (l : List S56) (w i t : Nat) (hi : i < l.length) (ht : t < l.length) (hm : t ∈ tgt l i) (hs : st l w i = false) (hb : (bareS l w l.length).getD i false = true) : (bareS l w l.length).getD t false = true := by
  have e := bare_fixed l w i (l.length - i)
  rw [show i + (l.length - i) = l.length by omega] at e
  rw [e] at hb
  have h1 : (bareS l w (i + 1)).getD t false = true := by
    rw [bareS, if_pos ⟨hb, hs⟩]
    exact setT_mem _ _ ht _ _ (bare_len l w i) hm
  have h2 := bare_mono l w t (i + 1) (l.length - (i + 1)) h1
  rwa [show i + 1 + (l.length - (i + 1)) = l.length by omega] at h2

/-! ### The words written, as a number of 64 bits -/
theorem bits64 (a b : Nat) (ha : a < 65536) (hb : b < 65536) : Go.bits .and .i64 a b = ((a &&& b : Nat) : Int) ∧ Go.bits .or .i64 a b = ((a ||| b : Nat) : Int) :=
  bits_nat .i64 16 (by decide) (fun n h0 h1 => by
    have h2 : n < 65536 := by simpa using h1
    have e : n % 18446744073709551616 = n := Int.emod_eq_of_lt h0 (by omega)
    simp [IntKind.wrap, IntKind.bits, IntKind.signed, e]
    omega) a b ha hb
theorem num_or64 (g h : Nat → Bool) : Go.bits .or .i64 (num g) (num h) = num fun w => g w || h w := by
  have := (bits64 (numN g 16) (numN h 16) (numN_lt g 16) (numN_lt h 16)).2
  unfold num
  rw [this]
  refine congrArg (fun x : Nat => (x : Int)) (Nat.eq_of_testBit_eq fun j => ?_)
  rw [Nat.testBit_or, numN_bit, numN_bit, numN_bit]
  by_cases c : j < 16 <;> simp [c]
theorem num_one64 (K : Nat) (h : K < 16) : shl .i64 1 (K : Int) = num fun w => decide (w = K) := by
  have : ∀ K : Nat, K < 16 → shl .i64 1 (K : Int) = num fun w => decide (w = K) := by decide +kernel
  exact this K h
theorem num_read64 (g : Nat → Bool) (K : Nat) (h : K < 16) : (Go.bits .and .i64 (shr .i64 (num g) (K : Int)) 1 = 0) ↔ g K = false := by
  have hl := numN_lt g 16
  have e1 : shr .i64 (num g) (K : Int) = ((numN g 16 / 2 ^ K : Nat) : Int) := by
    unfold shr num
    rw [Int.toNat_natCast, show min K IntKind.i64.bits = K from Nat.min_eq_left (by have : IntKind.i64.bits = 64 := rfl; omega), Int.natCast_ediv, Int.natCast_pow]; rfl
  have e2 := (bits64 (numN g 16 / 2 ^ K) 1 (Nat.lt_of_le_of_lt (Nat.div_le_self _ _) hl) (by decide)).1
  rw [Nat.and_one_is_mod] at e2
  have e3 : Go.bits .and .i64 ((numN g 16 / 2 ^ K : Nat) : Int) 1 = ((numN g 16 / 2 ^ K % 2 : Nat) : Int) := e2
  have e4 := numN_bit g 16 K
  rw [decide_eq_true h, Bool.true_and, Nat.testBit_eq_decide_div_mod_eq] at e4
  have hm : numN g 16 / 2 ^ K % 2 < 2 := Nat.mod_lt _ (by decide)
  rw [e1, e3, ← e4]
  constructor
  · intro h0; exact decide_eq_false (by omega)
  · intro h0; have := of_decide_eq_false h0; omega
end Go.Proofs.Ytmjpibeiglicdaa.Ver
