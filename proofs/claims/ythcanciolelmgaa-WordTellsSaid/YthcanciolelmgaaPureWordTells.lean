/- WordTells: whatever is reckoned, or asked, of two words, is the document's; for every operation and every two words of 32 bits. -/
import Derived.Test.YthcanciolelmgaaTellsC
import Derived.Test.YthcanciolelmgaaPlain
namespace Go.Proofs.Ythcanciolelmgaa.Pure
open Go.RowKit Go.Proofs.Ythcanciolelmgaa.PWordTells Go.Proofs.YthcanciolelmgaaW.PrintWords Go.Proofs.YthcanciolelmgaaW.PrintLast Go.Proofs.YthcanciolelmgaaW.PrintMore
open Go.Proofs.Ythcanciolelmgaa.Plain

theorem awake_true : tamislaw01_awake.f = some true := by decide +kernel
theorem wrap_small (n : Int) (h0 : -9223372036854775808 ≤ n) (h1 : n < 9223372036854775808) : wrap64 n = n := by unfold wrap64; omega
theorem wu (n : Nat) (h : n < 18446744073709551616) : IntKind.u64.wrap (n : Int) = n := by rw [IntKind.wrap_u64]; omega

/-! ### The reference's bits -/
def bl (n i : Nat) : List Int := (List.range i).map fun j => ((n / 2 ^ j % 2 : Nat) : Int)
theorem bl_len (n i : Nat) : (bl n i).length = i := by simp [bl]
theorem bl_succ (n i : Nat) : bl n (i + 1) = bl n i ++ [((n / 2 ^ i % 2 : Nat) : Int)] := by simp [bl, List.range_succ]
theorem bl_rd (n i : Nat) (h : i < 64) : rd (bl n 64) (i : Int) = ((n / 2 ^ i % 2 : Nat) : Int) := by
  simp [rd, bl, h]
theorem bits_loop (n : Nat) (d : Nat) : ∀ (k i : Nat), i ≤ 64 → 64 - i = d → d < k → tamisref01_bits.l0 k (n : Int) (bl n i) (i : Int) = some (bl n 64) := by
  induction d with
  | zero =>
    intro k i h1 h2 h3
    obtain ⟨k, rfl⟩ : ∃ m, k = m + 1 := ⟨k - 1, by omega⟩
    obtain rfl : i = 64 := by omega
    simp only [tamisref01_bits.l0]
    rw [if_neg (by decide)]
  | succ d ih =>
    intro k i h1 h2 h3
    obtain ⟨k, rfl⟩ : ∃ m, k = m + 1 := ⟨k - 1, by omega⟩
    have hi : i < 64 := by omega
    have e : wrap64 (Int.tmod (shr .u64 (n : Int) (i : Int)) 2) = ((n / 2 ^ i % 2 : Nat) : Int) := by
      rw [shr64 n i hi, show Int.tmod ((n / 2 ^ i : Nat) : Int) 2 = ((n / 2 ^ i % 2 : Nat) : Int) from (Int.ofNat_tmod (n / 2 ^ i) 2).symm]
      have : n / 2 ^ i % 2 < 2 := Nat.mod_lt _ (by decide)
      exact wrap_small _ (by omega) (by omega)
    simp only [tamisref01_bits.l0]
    rw [if_pos (by omega), if_pos (by omega), if_pos (by rw [bl_len]; omega), e, ← bl_succ, wrap_small ((i : Int) + 1) (by omega) (by omega)]
    exact ih k (i + 1) (by omega) (by omega) (by omega)
theorem ref_bits (n k : Nat) (hk : 64 < k) : tamisref01_bits.f k (n : Int) = some (bl n 64) := bits_loop n 64 k 0 (by omega) (by omega) (by omega)

/-! ### A number out of its bits -/
def gv (g : Nat → Bool) : Nat → Nat
  | 0 => 0
  | d + 1 => 2 * gv g d + (g (31 - d)).toNat
theorem gv_lt (g : Nat → Bool) : ∀ d, gv g d < 2 ^ d
  | 0 => by simp [gv]
  | d + 1 => by
    have := gv_lt g d
    have hb : (g (31 - d)).toNat ≤ 1 := Bool.toNat_le _
    rw [gv, Nat.pow_succ]; omega
theorem gv_bit (g : Nat → Bool) : ∀ d, d ≤ 32 → ∀ j, (gv g d).testBit j = (decide (j < d) && g (32 - d + j))
  | 0 => fun _ j => by simp [gv]
  | d + 1 => fun hd j => by
    have ih := gv_bit g d (by omega)
    have hb : (g (31 - d)).toNat ≤ 1 := Bool.toNat_le _
    cases j with
    | zero =>
      rw [Nat.testBit_zero, gv]
      cases h : g (31 - d)
      · simp [show 32 - (d + 1) = 31 - d by omega, h]
      · simp [show 32 - (d + 1) = 31 - d by omega, h]
    | succ j =>
      rw [Nat.testBit_succ, gv, show (2 * gv g d + (g (31 - d)).toNat) / 2 = gv g d by omega, ih, show 32 - (d + 1) + (j + 1) = 32 - d + j by omega]
      congr 1
      exact decide_eq_decide.2 (by omega)
def gl (g : Nat → Bool) : List Int := (List.range 32).map fun j => (((g j).toNat : Nat) : Int)
theorem gl_len (g : Nat → Bool) : (gl g).length = 32 := by simp [gl]
theorem gl_rd (g : Nat → Bool) (i : Nat) (h : i < 32) : rd (gl g) (i : Int) = (((g i).toNat : Nat) : Int) := by
  simp [rd, gl, h]
theorem value_loop (g : Nat → Bool) (e : Nat) : ∀ (k d : Nat), d ≤ 32 → 32 - d = e → e < k → tamisref01_value.l0 k (gl g) ((gv g d : Nat) : Int) (31 - (d : Int)) = some ((gv g 32 : Nat) : Int) := by
  induction e with
  | zero =>
    intro k d h1 h2 h3
    obtain ⟨k, rfl⟩ : ∃ m, k = m + 1 := ⟨k - 1, by omega⟩
    obtain rfl : d = 32 := by omega
    simp only [tamisref01_value.l0]
    rw [if_neg (by decide)]
  | succ e ih =>
    intro k d h1 h2 h3
    obtain ⟨k, rfl⟩ : ∃ m, k = m + 1 := ⟨k - 1, by omega⟩
    have lt := gv_lt g d
    have lp : 2 ^ d ≤ 2 ^ 31 := Nat.pow_le_pow_right (by decide) (by omega)
    have l31 : (2 : Nat) ^ 31 = 2147483648 := by decide
    rw [l31] at lp
    have hb : (g (31 - d)).toNat ≤ 1 := Bool.toNat_le _
    have ih := ih k (d + 1) (by omega) (by omega) (by omega)
    rw [gv] at ih
    have hcast : (31 : Int) - (d : Int) = ((31 - d : Nat) : Int) := by omega
    have ew : wrap64 ((31 : Int) - (d : Int) - 1) = 31 - ((d + 1 : Nat) : Int) := by rw [wrap_small _ (by omega) (by omega)]; omega
    simp only [tamisref01_value.l0]
    rw [ew, if_pos (by omega), if_pos (by omega), if_pos (by rw [gl_len]; omega), hcast, gl_rd g (31 - d) (by omega)]
    have e1 : ((2 * ((gv g d : Nat) : Int)) % 4294967296 + (((g (31 - d)).toNat : Nat) : Int) % 4294967296) % 4294967296 = ((2 * gv g d + (g (31 - d)).toNat : Nat) : Int) := by omega
    rw [e1]
    exact ih
theorem ref_value (g : Nat → Bool) (k : Nat) (hk : 32 < k) : tamisref01_value.f k (gl g) = some ((gv g 32 : Nat) : Int) := value_loop g 32 k 0 (by omega) (by omega) (by omega)

/-! ### Bit by bit -/
def vf (x2 x3 x4 : Int) (n m j : Nat) : Int := if n / 2 ^ j % 2 + m / 2 ^ j % 2 = 0 then x2 else if n / 2 ^ j % 2 + m / 2 ^ j % 2 = 1 then x3 else x4
def fl (x2 x3 x4 : Int) (n m i : Nat) : List Int := (List.range 32).map fun j => if j < i then vf x2 x3 x4 n m j else 0
theorem fl_len (x2 x3 x4 : Int) (n m i : Nat) : (fl x2 x3 x4 n m i).length = 32 := by simp [fl]
theorem fl_zero (x2 x3 x4 : Int) (n m : Nat) : List.replicate 32 (0 : Int) = fl x2 x3 x4 n m 0 := by
  apply List.ext_getElem
  · simp [fl]
  · intro j h1 h2
    rw [List.getElem_replicate]
    simp only [fl, List.getElem_map, List.getElem_range]
    rw [if_neg (by omega)]
theorem fl_set (x2 x3 x4 : Int) (n m i : Nat) : (fl x2 x3 x4 n m i).set i (vf x2 x3 x4 n m i) = fl x2 x3 x4 n m (i + 1) := by
  apply List.ext_getElem
  · simp [fl]
  · intro j h1 h2
    rw [List.getElem_set]
    by_cases h : i = j
    · subst h
      simp [fl]
    · simp only [h, if_false, fl, List.getElem_map, List.getElem_range]
      by_cases c : j < i
      · rw [if_pos c, if_pos (by omega)]
      · rw [if_neg c, if_neg (by omega)]
theorem both_loop (x2 x3 x4 : Int) (n m : Nat) (d : Nat) : ∀ (k i : Nat), i ≤ 32 → 32 - i = d → d + 40 < k →
    ∃ k', 39 < k' ∧ tamisref01_both.l0 k x2 x3 x4 (bl n 64) (bl m 64) (fl x2 x3 x4 n m i) (i : Int) = tamisref01_value.f k' (fl x2 x3 x4 n m 32) := by
  induction d with
  | zero =>
    intro k i h1 h2 h3
    obtain ⟨k, rfl⟩ : ∃ m, k = m + 1 := ⟨k - 1, by omega⟩
    obtain rfl : i = 32 := by omega
    refine ⟨k, by omega, ?_⟩
    simp only [tamisref01_both.l0]
    rw [if_neg (by decide)]
    cases tamisref01_value.f k (fl x2 x3 x4 n m 32) <;> rfl
  | succ d ih =>
    intro k i h1 h2 h3
    obtain ⟨k, rfl⟩ : ∃ m, k = m + 1 := ⟨k - 1, by omega⟩
    have hi : i < 32 := by omega
    obtain ⟨k', hk', ih⟩ := ih k (i + 1) (by omega) (by omega) (by omega)
    refine ⟨k', hk', ?_⟩
    rw [← fl_set] at ih
    have m1 : n / 2 ^ i % 2 < 2 := Nat.mod_lt _ (by decide)
    have m2 : m / 2 ^ i % 2 < 2 := Nat.mod_lt _ (by decide)
    have e1 : wrap64 (((n / 2 ^ i % 2 : Nat) : Int) + ((m / 2 ^ i % 2 : Nat) : Int)) = ((n / 2 ^ i % 2 + m / 2 ^ i % 2 : Nat) : Int) := by
      rw [wrap_small _ (by omega) (by omega)]; omega
    simp only [tamisref01_both.l0]
    rw [if_pos (by omega), if_pos (by omega), if_pos (by rw [bl_len]; omega), if_pos (by rw [bl_len]; omega), bl_rd n i (by omega), bl_rd m i (by omega), e1, wrap_small ((i : Int) + 1) (by omega) (by omega), Int.toNat_natCast]
    have hfl : (i : Int) < ((fl x2 x3 x4 n m i).length : Int) := by rw [fl_len]; omega
    clear h1 h2 h3
    by_cases c0 : n / 2 ^ i % 2 + m / 2 ^ i % 2 = 0
    · rw [if_pos (by omega), if_pos hfl]
      have : vf x2 x3 x4 n m i = x2 := by unfold vf; rw [if_pos c0]
      rw [this] at ih
      exact ih
    · rw [if_neg (by omega)]
      by_cases c1 : n / 2 ^ i % 2 + m / 2 ^ i % 2 = 1
      · rw [if_pos (by omega), if_pos hfl]
        have : vf x2 x3 x4 n m i = x3 := by unfold vf; rw [if_neg c0, if_pos c1]
        rw [this] at ih
        exact ih
      · rw [if_neg (by omega), if_pos hfl]
        have : vf x2 x3 x4 n m i = x4 := by unfold vf; rw [if_neg c0, if_neg c1]
        rw [this] at ih
        exact ih
theorem both_gate (g : Bool → Bool → Bool) (op : Nat → Nat → Nat) (x2 x3 x4 : Int) (h0 : x2 = ((g false false).toNat : Nat)) (h1 : x3 = ((g false true).toNat : Nat)) (h1' : x3 = ((g true false).toNat : Nat)) (h2 : x4 = ((g true true).toNat : Nat))
    (hop : ∀ a b j, (op a b).testBit j = g (a.testBit j) (b.testBit j)) (n m : Nat) (hn : n < 4294967296) (hm : m < 4294967296) (hr : op n m < 4294967296) (k : Nat) (hk : 100 ≤ k) :
    tamisref01_both.f k (n : Int) (m : Int) x2 x3 x4 = some ((op n m : Nat) : Int) := by
  unfold tamisref01_both.f
  rw [wu n (by omega), wu m (by omega), ref_bits n k (by omega), ref_bits m k (by omega), Option.bind_some, Option.bind_some, if_pos (by decide), fl_zero x2 x3 x4 n m]
  obtain ⟨k', hk', e⟩ := both_loop x2 x3 x4 n m 32 k 0 (by omega) (by omega) (by omega)
  have e' : tamisref01_both.l0 k x2 x3 x4 (bl n 64) (bl m 64) (fl x2 x3 x4 n m 0) 0 = tamisref01_value.f k' (fl x2 x3 x4 n m 32) := e
  rw [e']
  have hf : fl x2 x3 x4 n m 32 = gl fun j => (op n m).testBit j := by
    apply List.ext_getElem
    · simp [fl, gl]
    · intro j j1 j2
      have hj : j < 32 := by simpa [fl] using j1
      simp only [fl, gl, List.getElem_map, List.getElem_range, if_pos hj, hop]
      have m1 : n / 2 ^ j % 2 < 2 := Nat.mod_lt _ (by decide)
      have m2 : m / 2 ^ j % 2 < 2 := Nat.mod_lt _ (by decide)
      rw [Nat.testBit_eq_decide_div_mod_eq, Nat.testBit_eq_decide_div_mod_eq]
      unfold vf
      rcases (by omega : n / 2 ^ j % 2 = 0 ∨ n / 2 ^ j % 2 = 1) with q1 | q1 <;> rcases (by omega : m / 2 ^ j % 2 = 0 ∨ m / 2 ^ j % 2 = 1) with q2 | q2 <;> rw [q1, q2]
      · exact h0
      · exact h1
      · exact h1'
      · exact h2
  rw [hf, ref_value _ k' (by omega)]
  refine congrArg (fun x : Nat => some (x : Int)) ?_
  apply Nat.eq_of_testBit_eq
  intro j
  rw [gv_bit _ 32 (by decide) j, Nat.sub_self, Nat.zero_add]
  by_cases h : j < 32
  · simp [h]
  · rw [decide_eq_false h, Bool.false_and, Nat.testBit_lt_two_pow (Nat.lt_of_lt_of_le (show op n m < 2 ^ 32 from hr) (Nat.pow_le_pow_right (by decide) (by omega)))]
theorem ref_and (n m : Nat) (hn : n < 4294967296) (hm : m < 4294967296) (k : Nat) (hk : 100 ≤ k) : tamisref01_both.f k (n : Int) (m : Int) 0 0 1 = some ((n &&& m : Nat) : Int) :=
  both_gate (fun a b => a && b) (fun a b => a &&& b) 0 0 1 rfl rfl rfl rfl (fun _ _ _ => Nat.testBit_and ..) n m hn hm (Nat.and_lt_two_pow (n := 32) _ hm) k hk
theorem ref_or (n m : Nat) (hn : n < 4294967296) (hm : m < 4294967296) (k : Nat) (hk : 100 ≤ k) : tamisref01_both.f k (n : Int) (m : Int) 0 1 1 = some ((n ||| m : Nat) : Int) :=
  both_gate (fun a b => a || b) (fun a b => a ||| b) 0 1 1 rfl rfl rfl rfl (fun _ _ _ => Nat.testBit_or ..) n m hn hm (Nat.or_lt_two_pow (n := 32) hn hm) k hk
theorem ref_xor (n m : Nat) (hn : n < 4294967296) (hm : m < 4294967296) (k : Nat) (hk : 100 ≤ k) : tamisref01_both.f k (n : Int) (m : Int) 0 1 0 = some ((n ^^^ m : Nat) : Int) :=
  both_gate (fun a b => a ^^ b) (fun a b => a ^^^ b) 0 1 0 rfl rfl rfl rfl (fun _ _ _ => Nat.testBit_xor ..) n m hn hm (Nat.xor_lt_two_pow (n := 32) hn hm) k hk

/-! ### Moves -/
theorem tm (a b : Nat) : Int.tmod (a : Int) (b : Int) = ((a % b : Nat) : Int) := (Int.ofNat_tmod a b).symm
theorem td (a b : Nat) : Int.tdiv (a : Int) (b : Int) = ((a / b : Nat) : Int) := (Int.ofNat_tdiv a b).symm
theorem up_loop (a m : Nat) (hm : m < 32) (x2 : Int) (hx : Int.tmod x2 32 = (m : Int)) (d : Nat) : ∀ (k i : Nat), i ≤ m → m - i = d → d < k →
    tamisref01_Alu.l0 k x2 4294967296 ((a * 2 ^ i % 4294967296 : Nat) : Int) (i : Int) = some (((a * 2 ^ m % 4294967296 : Nat) : Int), true) := by
  induction d with
  | zero =>
    intro k i h1 h2 h3
    obtain ⟨k, rfl⟩ : ∃ m, k = m + 1 := ⟨k - 1, by omega⟩
    obtain rfl : i = m := by omega
    simp only [tamisref01_Alu.l0]
    rw [hx, if_neg (by omega)]
    have : ((a * 2 ^ i % 4294967296 : Nat) : Int) % 4294967296 = ((a * 2 ^ i % 4294967296 : Nat) : Int) := by omega
    rw [this]
  | succ d ih =>
    intro k i h1 h2 h3
    obtain ⟨k, rfl⟩ : ∃ m, k = m + 1 := ⟨k - 1, by omega⟩
    obtain ⟨z, hz⟩ : ∃ z, a * 2 ^ i % 4294967296 = z := ⟨_, rfl⟩
    have hzl : z < 4294967296 := by rw [← hz]; exact Nat.mod_lt _ (by decide)
    have ih := ih k (i + 1) (by omega) (by omega) (by omega)
    have e : a * 2 ^ (i + 1) % 4294967296 = 2 * z % 4294967296 := by
      rw [← hz, Nat.pow_succ, ← Nat.mul_assoc, Nat.mul_comm (a * 2 ^ i) 2, Nat.mul_mod_mod]
    rw [e] at ih
    have e2 : IntKind.u64.wrap (2 * (z : Int)) = ((2 * z : Nat) : Int) := by rw [IntKind.wrap_u64]; omega
    have e3 : Int.tmod ((2 * z : Nat) : Int) 4294967296 = ((2 * z % 4294967296 : Nat) : Int) := tm (2 * z) 4294967296
    have e4 : ((i : Int) + 1) % 4294967296 = ((i + 1 : Nat) : Int) := by omega
    simp only [tamisref01_Alu.l0]
    rw [hz, hx, if_pos (by omega), if_neg (by decide), e2, e3, e4]
    exact ih
theorem down_loop (a m : Nat) (ha : a < 4294967296) (hm : m < 32) (x2 : Int) (hx : Int.tmod x2 32 = (m : Int)) (d : Nat) : ∀ (k i : Nat), i ≤ m → m - i = d → d < k →
    tamisref01_Alu.l1 k x2 ((a / 2 ^ i : Nat) : Int) (i : Int) = some (((a / 2 ^ m : Nat) : Int), true) := by
  induction d with
  | zero =>
    intro k i h1 h2 h3
    obtain ⟨k, rfl⟩ : ∃ m, k = m + 1 := ⟨k - 1, by omega⟩
    obtain rfl : i = m := by omega
    have hl : a / 2 ^ i ≤ a := Nat.div_le_self _ _
    obtain ⟨z, hz⟩ : ∃ z, a / 2 ^ i = z := ⟨_, rfl⟩
    rw [hz] at hl ⊢
    simp only [tamisref01_Alu.l1]
    rw [hx, if_neg (by omega)]
    have : (z : Int) % 4294967296 = (z : Int) := by omega
    rw [this]
  | succ d ih =>
    intro k i h1 h2 h3
    obtain ⟨k, rfl⟩ : ∃ m, k = m + 1 := ⟨k - 1, by omega⟩
    have ih := ih k (i + 1) (by omega) (by omega) (by omega)
    rw [Nat.pow_succ, ← Nat.div_div_eq_div_mul] at ih
    have hl : a / 2 ^ i ≤ a := Nat.div_le_self _ _
    obtain ⟨z, hz⟩ : ∃ z, a / 2 ^ i = z := ⟨_, rfl⟩
    rw [hz] at hl ih ⊢
    have e2 : IntKind.u64.wrap (Int.tdiv (z : Int) 2) = ((z / 2 : Nat) : Int) := by
      rw [show Int.tdiv (z : Int) 2 = ((z / 2 : Nat) : Int) from td z 2]; exact wu _ (by omega)
    have e4 : ((i : Int) + 1) % 4294967296 = ((i + 1 : Nat) : Int) := by omega
    simp only [tamisref01_Alu.l1]
    rw [hx, if_pos (by omega), e2, e4]
    exact ih

/-! ### The law -/
theorem mulN (a b : Nat) (ha : a < 4294967296) (hb : b < 4294967296) : a * b < 18446744073709551616 := by
  have h := Nat.mul_le_mul (show a ≤ 4294967295 by omega) (show b ≤ 4294967295 by omega)
  have e : (4294967295 : Nat) * 4294967295 = 18446744065119617025 := by decide
  rw [e] at h
  exact Nat.lt_of_le_of_lt h (by decide)
theorem mod_again (x : Nat) : ((x % 4294967296 : Nat) : Int) % 4294967296 = ((x % 4294967296 : Nat) : Int) := by omega

theorem alu_alike (op : Int) (a b : Nat) (ha : a < 4294967296) (hb : b < 4294967296) : ∃ r, word_Alu.f op a b = some r ∧ tamisref01_Alu.f 101 op a b = some r := by
  have wa := wu a (by omega)
  have wb := wu b (by omega)
  obtain ⟨x1, x2, x3⟩ := bits32 a b ha hb
  unfold word_Alu.f tamisref01_Alu.f
  rw [wa, wb]
  by_cases c : op = 0
  · rw [if_pos c, if_pos c]
    refine ⟨_, rfl, ?_⟩
    have e : IntKind.u64.wrap ((a : Int) + (b : Int)) = ((a + b : Nat) : Int) := by rw [IntKind.wrap_u64]; omega
    rw [e, show Int.tmod ((a + b : Nat) : Int) 4294967296 = (((a + b) % 4294967296 : Nat) : Int) from tm (a + b) 4294967296, mod_again]
    have : (((a + b) % 4294967296 : Nat) : Int) = ((a : Int) + (b : Int)) % 4294967296 := by omega
    rw [this]
  rw [if_neg c, if_neg c]; clear c
  by_cases c : op = 16
  · rw [if_pos c, if_pos c]
    refine ⟨_, rfl, ?_⟩
    have e : IntKind.u64.wrap (IntKind.u64.wrap ((a : Int) + 4294967296) - (b : Int)) = ((a + 4294967296 - b : Nat) : Int) := by rw [IntKind.wrap_u64, IntKind.wrap_u64]; omega
    rw [e, show Int.tmod ((a + 4294967296 - b : Nat) : Int) 4294967296 = (((a + 4294967296 - b) % 4294967296 : Nat) : Int) from tm (a + 4294967296 - b) 4294967296, mod_again]
    have : (((a + 4294967296 - b) % 4294967296 : Nat) : Int) = ((a : Int) - (b : Int)) % 4294967296 := by omega
    rw [this]
  rw [if_neg c, if_neg c]; clear c
  by_cases c : op = 32
  · rw [if_pos c, if_pos c]
    refine ⟨_, rfl, ?_⟩
    rw [← Int.natCast_mul, wu (a * b) (mulN a b ha hb), show Int.tmod ((a * b : Nat) : Int) 4294967296 = ((a * b % 4294967296 : Nat) : Int) from tm (a * b) 4294967296, mod_again]
    rfl
  rw [if_neg c, if_neg c]; clear c
  by_cases c : op = 48
  · rw [if_pos c, if_pos c]
    by_cases hz : (b : Int) = 0
    · rw [if_pos hz, if_pos hz]; exact ⟨_, rfl, rfl⟩
    · rw [if_neg hz, if_neg hz, if_neg hz]
      refine ⟨_, rfl, ?_⟩
      have hq : a / b ≤ a := Nat.div_le_self a b
      rw [td a b, wu (a / b) (by omega)]
  rw [if_neg c, if_neg c]; clear c
  by_cases c : op = 64
  · rw [if_pos c, if_pos c, x2, ref_or a b ha hb 101 (by decide)]; exact ⟨_, rfl, rfl⟩
  rw [if_neg c, if_neg c]; clear c
  by_cases c : op = 80
  · rw [if_pos c, if_pos c, x1, ref_and a b ha hb 101 (by decide)]; exact ⟨_, rfl, rfl⟩
  rw [if_neg c, if_neg c]; clear c
  have hm : b % 32 < 32 := Nat.mod_lt _ (by decide)
  have ht : Int.tmod (b : Int) 32 = ((b % 32 : Nat) : Int) := tm b 32
  have h31 : Go.bits .and .u32 (b : Int) 31 = ((b % 32 : Nat) : Int) := and31 b hb
  by_cases c : op = 96
  · rw [if_pos c, if_pos c, h31, if_pos (Int.natCast_nonneg _), shl32 a (b % 32) hm]
    refine ⟨_, rfl, ?_⟩
    have := up_loop a (b % 32) hm (b : Int) ht (b % 32) 101 0 (by omega) (by omega) (by omega)
    rw [Nat.pow_zero, Nat.mul_one, Nat.mod_eq_of_lt ha] at this
    exact this
  rw [if_neg c, if_neg c]; clear c
  by_cases c : op = 112
  · rw [if_pos c, if_pos c, h31, if_pos (Int.natCast_nonneg _), shr32 a (b % 32) hm]
    refine ⟨_, rfl, ?_⟩
    have := down_loop a (b % 32) ha hm (b : Int) ht (b % 32) 101 0 (by omega) (by omega) (by omega)
    rw [Nat.pow_zero, Nat.div_one] at this
    exact this
  rw [if_neg c, if_neg c]; clear c
  by_cases c : op = 128
  · rw [if_pos c, if_pos c]
    refine ⟨_, rfl, ?_⟩
    have e : IntKind.u64.wrap (4294967296 - (a : Int)) = ((4294967296 - a : Nat) : Int) := by rw [IntKind.wrap_u64]; omega
    rw [e, show Int.tmod ((4294967296 - a : Nat) : Int) 4294967296 = (((4294967296 - a) % 4294967296 : Nat) : Int) from tm (4294967296 - a) 4294967296, mod_again]
    have : (((4294967296 - a) % 4294967296 : Nat) : Int) = -(a : Int) % 4294967296 := by omega
    rw [this]
  rw [if_neg c, if_neg c]; clear c
  by_cases c : op = 160
  · rw [if_pos c, if_pos c, x3, ref_xor a b ha hb 101 (by decide)]; exact ⟨_, rfl, rfl⟩
  rw [if_neg c, if_neg c]
  exact ⟨_, rfl, rfl⟩

theorem ask_alike (op : Int) (a b : Nat) (ha : a < 4294967296) (hb : b < 4294967296) : ∃ r, word_Ask.f op a b = some r ∧ tamisref01_Ask.f 101 op a b = some r := by
  obtain ⟨x1, x2, x3⟩ := bits32 a b ha hb
  unfold word_Ask.f tamisref01_Ask.f
  by_cases c : op = 16
  · rw [if_pos c, if_pos c]; exact ⟨_, rfl, rfl⟩
  rw [if_neg c, if_neg c]; clear c
  by_cases c : op = 32
  · rw [if_pos c, if_pos c]; exact ⟨_, rfl, rfl⟩
  rw [if_neg c, if_neg c]; clear c
  by_cases c : op = 48
  · rw [if_pos c, if_pos c]; exact ⟨_, rfl, rfl⟩
  rw [if_neg c, if_neg c]; clear c
  by_cases c : op = 64
  · rw [if_pos c, if_pos c, x1, ref_and a b ha hb 101 (by decide), Option.bind_some]
    refine ⟨_, rfl, ?_⟩
    by_cases z : (a &&& b) = 0
    · rw [z]; rfl
    · rw [decide_eq_true (show ((a &&& b : Nat) : Int) > 0 by omega), bne_iff_ne.2 (show ((a &&& b : Nat) : Int) ≠ 0 by omega)]
  rw [if_neg c, if_neg c]
  exact ⟨_, rfl, rfl⟩

theorem WordTells : tamislaw01_WordTells.Pure := by
  intro op a0 a1 _ h0 h1
  have b0 := u32_of h0
  have b1 := u32_of h1
  obtain ⟨a, rfl⟩ := Int.eq_ofNat_of_zero_le b0.1
  obtain ⟨b, rfl⟩ := Int.eq_ofNat_of_zero_le b1.1
  have ha : a < 4294967296 := by omega
  have hb : b < 4294967296 := by omega
  obtain ⟨r, e1, e2⟩ := alu_alike op a b ha hb
  obtain ⟨q, e3, e4⟩ := ask_alike op a b ha hb
  refine ⟨101, ?_⟩
  unfold tamislaw01_WordTells.f
  rw [e1, e2, e3, e4, awake_true, Option.bind_some, Option.bind_some, Option.bind_some, if_pos rfl, if_pos rfl, if_pos (by simp), Option.bind_some, Option.bind_some]
  simp

end Go.Proofs.Ythcanciolelmgaa.Pure
