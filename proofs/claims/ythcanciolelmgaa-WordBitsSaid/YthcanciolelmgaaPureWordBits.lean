/- WordBits: bits, how many there are, and spans of them, are the document's; for every word of 64 bits and every two places. -/
import Derived.Test.YthcanciolelmgaaPWordBitsx2
import Derived.Test.YthcanciolelmgaaPlain
import Derived.Test.YthcanciolelmgaaPop
namespace Go.Proofs.Ythcanciolelmgaa.Pure
open Go.RowKit Go.Proofs.Ythcanciolelmgaa.PWordBits Go.Proofs.YthcanciolelmgaaW.PrintWords Go.Proofs.YthcanciolelmgaaW.PrintLast Go.Proofs.YthcanciolelmgaaW.PrintMore
open Go.Proofs.Ythcanciolelmgaa.Plain Go.Proofs.Ythcanciolelmgaa.Pop

theorem awake_true : tamislaw01_awake.f = some true := by decide +kernel
theorem wrap_small (n : Int) (h0 : -9223372036854775808 ≤ n) (h1 : n < 9223372036854775808) : wrap64 n = n := by unfold wrap64; omega
theorem wu (n : Nat) (h : n < 18446744073709551616) : IntKind.u64.wrap (n : Int) = n := by rw [IntKind.wrap_u64]; omega

/-! ### How many -/
theorem m5 : reps 5 16 = 6148914691236517205 := by decide
theorem m3 : reps 3 16 = 3689348814741910323 := by decide
theorem mf : reps8 8 = 1085102592571150095 := by decide
theorem cast_div (n d : Nat) : (n : Int) / (d : Int) = ((n / d : Nat) : Int) := (Int.natCast_ediv n d).symm

theorem and127 (w : Nat) (h : w < 4000000000000000000) : Go.bits .and .i64 (w : Int) 127 = ((w % 128 : Nat) : Int) := by
  have := bits_mask .i64 63 (by decide) (fun n h0 h1 => by rw [IntKind.wrap_i64]; omega) 7 (by decide) (w : Int) (by omega) (by omega)
  rw [show (2 : Int) ^ 7 - 1 = 127 from rfl, show (2 : Int) ^ 7 = 128 from rfl] at this
  rw [this]; omega

theorem ones_pc (n : Nat) (hn : n < 18446744073709551616) : bits_OnesCount64.f (n : Int) = some ((pc n 16 : Nat) : Int) := by
  have lt5 : ∀ x : Nat, x &&& 6148914691236517205 ≤ 6148914691236517205 := fun x => Nat.and_le_right
  have lt3 : ∀ x : Nat, x &&& 3689348814741910323 ≤ 3689348814741910323 := fun x => Nat.and_le_right
  -- the first sum
  have a1 : Go.bits .and .u64 ((n : Int) / 2) 6148914691236517205 = ((n / 2 &&& 6148914691236517205 : Nat) : Int) := by
    rw [show (n : Int) / 2 = ((n / 2 : Nat) : Int) from cast_div n 2]; exact (bits64 (n / 2) 6148914691236517205 (by omega) (by omega)).1
  have a2 : Go.bits .and .u64 (n : Int) 6148914691236517205 = ((n &&& 6148914691236517205 : Nat) : Int) := (bits64 n 6148914691236517205 hn (by omega)).1
  obtain ⟨x, hx⟩ : ∃ x, x = s1 n 16 := ⟨_, rfl⟩
  have hx1 : x = (n / 2 &&& 6148914691236517205) + (n &&& 6148914691236517205) := by rw [hx]; unfold s1; rw [m5]
  have hxl : x < 18446744073709551616 := by have := lt5 (n / 2); have := lt5 n; omega
  have a3 : IntKind.u64.wrap (((n / 2 &&& 6148914691236517205 : Nat) : Int) + ((n &&& 6148914691236517205 : Nat) : Int)) = (x : Int) := by
    rw [← Int.natCast_add, ← hx1]; exact wu x hxl
  -- the second
  have b1 : Go.bits .and .u64 ((x : Int) / 4) 3689348814741910323 = ((x / 4 &&& 3689348814741910323 : Nat) : Int) := by
    rw [show (x : Int) / 4 = ((x / 4 : Nat) : Int) from cast_div x 4]; exact (bits64 (x / 4) 3689348814741910323 (by omega) (by omega)).1
  have b2 : Go.bits .and .u64 (x : Int) 3689348814741910323 = ((x &&& 3689348814741910323 : Nat) : Int) := (bits64 x 3689348814741910323 hxl (by omega)).1
  obtain ⟨z, hz⟩ : ∃ z, z = s2 x 16 := ⟨_, rfl⟩
  have hz1 : z = (x / 4 &&& 3689348814741910323) + (x &&& 3689348814741910323) := by rw [hz]; unfold s2; rw [m3]
  have hzl : z ≤ 7378697629483820646 := by have := lt3 (x / 4); have := lt3 x; omega
  have b3 : IntKind.u64.wrap (((x / 4 &&& 3689348814741910323 : Nat) : Int) + ((x &&& 3689348814741910323 : Nat) : Int)) = (z : Int) := by
    rw [← Int.natCast_add, ← hz1]; exact wu z (by omega)
  have hz2 : z = pd n 16 := by rw [hz, hx]; exact s2_pd 16 n
  -- the third
  have c1 : IntKind.u64.wrap ((z : Int) / 16 + (z : Int)) = ((z / 16 + z : Nat) : Int) := by
    rw [show (z : Int) / 16 = ((z / 16 : Nat) : Int) from cast_div z 16, ← Int.natCast_add]; exact wu _ (by omega)
  obtain ⟨t, ht⟩ : ∃ t, t = pe n 8 := ⟨_, rfl⟩
  have c2 : Go.bits .and .u64 ((z / 16 + z : Nat) : Int) 1085102592571150095 = (t : Int) := by
    have h := (bits64 (z / 16 + z) 1085102592571150095 (by omega) (by omega)).1
    have e := s3_pe 8 n
    rw [show 2 * 8 = 16 from rfl, ← hz2, mf, ← ht] at e
    rw [e] at h
    exact h
  -- the last three
  obtain ⟨p0, p1, p2, p3, p4, p5, p6, p7, e8, es, q0, q1, q2, q3, q4, q5, q6, q7⟩ := pe8 n
  rw [← ht] at e8
  obtain ⟨u, v, w, hu, hv, hw, hm, lt, lu, lv, lw⟩ := fold8 p0 p1 p2 p3 p4 p5 p6 p7 t q0 q1 q2 q3 q4 q5 q6 q7 e8
  have d1 : IntKind.u64.wrap ((t : Int) + (t : Int) / 256) = (u : Int) := by
    rw [show (t : Int) / 256 = ((t / 256 : Nat) : Int) from cast_div t 256, ← Int.natCast_add, ← hu]; exact wu u (by omega)
  have d2 : IntKind.u64.wrap ((u : Int) + (u : Int) / 65536) = (v : Int) := by
    rw [show (u : Int) / 65536 = ((u / 65536 : Nat) : Int) from cast_div u 65536, ← Int.natCast_add, ← hv]; exact wu v (by omega)
  have d3 : IntKind.u64.wrap ((v : Int) + (v : Int) / 4294967296) = (w : Int) := by
    rw [show (v : Int) / 4294967296 = ((v / 4294967296 : Nat) : Int) from cast_div v 4294967296, ← Int.natCast_add, ← hw]; exact wu w (by omega)
  have d4 : wrap64 (w : Int) = (w : Int) := wrap_small _ (by omega) (by omega)
  unfold bits_OnesCount64.f
  rw [a1, a2, a3, b1, b2, b3, c1, c2, d1, d2, d3, d4, and127 w lw, hm, ← es]

/-- Sum of the first i bits. -/
def bs (n : Nat) : Nat → Nat
  | 0 => 0
  | i + 1 => bs n i + n / 2 ^ i % 2
theorem bs_low (n : Nat) : ∀ k, bs n (k + 1) = n % 2 + bs (n / 2) k
  | 0 => by simp [bs]
  | k + 1 => by
    rw [bs, bs_low n k, bs, Nat.div_div_eq_div_mul, Nat.pow_succ, Nat.mul_comm 2, Nat.add_assoc]
theorem bs_pc (m : Nat) : ∀ n, bs n (4 * m) = pc n m := by
  induction m with
  | zero => intro n; rfl
  | succ m ih =>
    intro n
    rw [show 4 * (m + 1) = 4 * m + 1 + 1 + 1 + 1 by omega, bs_low, bs_low, bs_low, bs_low, pc]
    have e : n / 2 / 2 / 2 / 2 = n / 16 := by simp only [Nat.div_div_eq_div_mul]
    rw [e, ih]
    unfold pc4
    omega
theorem bs_le (n : Nat) : ∀ k, bs n k ≤ k
  | 0 => Nat.le_refl _
  | k + 1 => by have := bs_le n k; have : n / 2 ^ k % 2 < 2 := Nat.mod_lt _ (by decide); unfold bs; omega
theorem ones (n : Nat) (hn : n < 18446744073709551616) : word_Ones.f (n : Int) = some ((bs n 64 : Nat) : Int) := by
  unfold word_Ones.f
  rw [ones_pc n hn, Option.bind_some, ← bs_pc]

/-! ### The reference's bits -/
def bl (n i : Nat) : List Int := (List.range i).map fun j => ((n / 2 ^ j % 2 : Nat) : Int)
theorem bl_len (n i : Nat) : (bl n i).length = i := by simp [bl]
theorem bl_succ (n i : Nat) : bl n (i + 1) = bl n i ++ [((n / 2 ^ i % 2 : Nat) : Int)] := by simp [bl, List.range_succ]
theorem bl_rd (n i : Nat) (h : i < 64) : rd (bl n 64) (i : Int) = ((n / 2 ^ i % 2 : Nat) : Int) := by
  simp [rd, bl, h]
theorem bits_loop (n : Nat) (d : Nat) : ∀ (k i : Nat), i ≤ 64 → 64 - i = d → d < k → tamisref01_bits.l0 k (n : Int) (bl n i) (i : Int) = some (bl n 64) := by
  induction d with
  | zero =>
    intro k i h1 h2 h3
    obtain ⟨k, rfl⟩ : ∃ m, k = m + 1 := ⟨k - 1, by omega⟩
    obtain rfl : i = 64 := by omega
    simp only [tamisref01_bits.l0]
    rw [if_neg (by decide)]
  | succ d ih =>
    intro k i h1 h2 h3
    obtain ⟨k, rfl⟩ : ∃ m, k = m + 1 := ⟨k - 1, by omega⟩
    have hi : i < 64 := by omega
    have e : wrap64 (Int.tmod (shr .u64 (n : Int) (i : Int)) 2) = ((n / 2 ^ i % 2 : Nat) : Int) := by
      rw [shr64 n i hi, show Int.tmod ((n / 2 ^ i : Nat) : Int) 2 = ((n / 2 ^ i % 2 : Nat) : Int) from (Int.ofNat_tmod (n / 2 ^ i) 2).symm]
      have : n / 2 ^ i % 2 < 2 := Nat.mod_lt _ (by decide)
      exact wrap_small _ (by omega) (by omega)
    simp only [tamisref01_bits.l0]
    rw [if_pos (by omega), if_pos (by omega), if_pos (by rw [bl_len]; omega), e, ← bl_succ, wrap_small ((i : Int) + 1) (by omega) (by omega)]
    exact ih k (i + 1) (by omega) (by omega) (by omega)
theorem ref_bits (n k : Nat) (hk : 64 < k) : tamisref01_bits.f k (n : Int) = some (bl n 64) := bits_loop n 64 k 0 (by omega) (by omega) (by omega)
theorem ones_loop (n : Nat) (d : Nat) : ∀ (k i : Nat), i ≤ 64 → 64 - i = d → d < k → tamisref01_Ones.l0 k (bl n 64) ((bs n i : Nat) : Int) (i : Int) = some ((bs n 64 : Nat) : Int) := by
  induction d with
  | zero =>
    intro k i h1 h2 h3
    obtain ⟨k, rfl⟩ : ∃ m, k = m + 1 := ⟨k - 1, by omega⟩
    obtain rfl : i = 64 := by omega
    simp only [tamisref01_Ones.l0]
    rw [if_neg (by decide)]
  | succ d ih =>
    intro k i h1 h2 h3
    obtain ⟨k, rfl⟩ : ∃ m, k = m + 1 := ⟨k - 1, by omega⟩
    have hi : i < 64 := by omega
    have hb := bs_le n i
    have hm : n / 2 ^ i % 2 < 2 := Nat.mod_lt _ (by decide)
    have e : wrap64 (((bs n i : Nat) : Int) + ((n / 2 ^ i % 2 : Nat) : Int)) = ((bs n (i + 1) : Nat) : Int) := by
      rw [wrap_small _ (by omega) (by omega), bs]; omega
    simp only [tamisref01_Ones.l0]
    rw [if_pos (by omega), if_pos (by omega), if_pos (by rw [bl_len]; omega), bl_rd n i hi, e, wrap_small ((i : Int) + 1) (by omega) (by omega)]
    exact ih k (i + 1) (by omega) (by omega) (by omega)
theorem ref_ones (n k : Nat) (hk : 64 < k) : tamisref01_Ones.f k (n : Int) = some ((bs n 64 : Nat) : Int) := by
  unfold tamisref01_Ones.f
  rw [ref_bits n k hk, Option.bind_some]
  exact ones_loop n 64 k 0 (by omega) (by omega) (by omega)

/-! ### One bit -/
theorem bit_nat (n i : Nat) (hn : n < 18446744073709551616) (hi : i < 64) : word_Bit.f (n : Int) (i : Int) = some (n.testBit i) := by
  unfold word_Bit.f
  rw [if_pos (by omega), if_pos (by omega), if_pos (by omega), shr64 n i hi]
  have h := (bits64 (n / 2 ^ i) 1 (Nat.lt_of_le_of_lt (Nat.div_le_self _ _) hn) (by decide)).1
  rw [Nat.and_one_is_mod] at h
  have h' : Go.bits .and .u64 ((n / 2 ^ i : Nat) : Int) 1 = ((n / 2 ^ i % 2 : Nat) : Int) := h
  rw [h', Nat.testBit_eq_decide_div_mod_eq]
  have hm : n / 2 ^ i % 2 < 2 := Nat.mod_lt _ (by decide)
  by_cases c : n / 2 ^ i % 2 = 1
  · rw [c]; rfl
  · rw [show n / 2 ^ i % 2 = 0 by omega]; rfl
theorem bit_out (n : Int) (i : Int) (h : i < 0 ∨ 64 ≤ i) : word_Bit.f n i = some false := by
  unfold word_Bit.f
  by_cases c : i ≥ 0
  · rw [if_pos c, if_neg (by omega)]
  · rw [if_neg c]
theorem ref_bit_nat (n i k : Nat) (hk : 64 < k) (hi : i < 64) : tamisref01_Bit.f k (n : Int) (i : Int) = some (n.testBit i) := by
  unfold tamisref01_Bit.f
  rw [if_pos (by omega), if_pos (by omega), ref_bits n k hk, Option.bind_some, if_pos (by omega), if_pos (by rw [bl_len]; omega), bl_rd n i hi, Nat.testBit_eq_decide_div_mod_eq]
  have hm : n / 2 ^ i % 2 < 2 := Nat.mod_lt _ (by decide)
  by_cases c : n / 2 ^ i % 2 = 1
  · rw [c]; rfl
  · rw [show n / 2 ^ i % 2 = 0 by omega]; rfl
theorem ref_bit_out (n : Int) (k : Nat) (i : Int) (h : i < 0 ∨ 64 ≤ i) : tamisref01_Bit.f k n i = some false := by
  unfold tamisref01_Bit.f
  by_cases c : i ≥ 0
  · rw [if_pos c, if_neg (by omega)]
  · rw [if_neg c]
theorem bits_alike (n k : Nat) (i : Int) (hn : n < 18446744073709551616) (hk : 64 < k) : ∃ b, word_Bit.f (n : Int) i = some b ∧ tamisref01_Bit.f k (n : Int) i = some b := by
  by_cases h : i < 0 ∨ 64 ≤ i
  · exact ⟨false, bit_out _ i h, ref_bit_out _ k i h⟩
  · obtain ⟨j, rfl⟩ := Int.eq_ofNat_of_zero_le (show 0 ≤ i by omega)
    exact ⟨_, bit_nat n j hn (by omega), ref_bit_nat n j k hk (by omega)⟩

/-! ### Spans -/
/-- Is place i between the two? -/
def inb (lo hi : Int) (i : Nat) : Bool := decide (lo ≤ (i : Int)) && decide ((i : Int) ≤ hi)
theorem up_any (i : Int) (h : i < 9223372036854775808) : ∃ u : Nat, word_up.f i = some (u : Int) ∧ u < 2 ^ 64 ∧ ∀ j, u.testBit j = (decide (j < 64) && decide (i ≤ (j : Int))) := by
  unfold word_up.f
  by_cases c : i ≤ 0
  · refine ⟨2 ^ 64 - 1, by rw [if_pos c]; rfl, by decide, fun j => ?_⟩
    rw [Nat.testBit_two_pow_sub_one]
    by_cases h2 : j < 64 <;> simp [h2]; omega
  · by_cases c2 : i ≥ 64
    · refine ⟨0, by rw [if_neg c, if_pos c2]; rfl, by decide, fun j => ?_⟩
      rw [Nat.zero_testBit]
      by_cases h2 : j < 64 <;> simp [h2]; omega
    · obtain ⟨m, rfl⟩ := Int.eq_ofNat_of_zero_le (show 0 ≤ i by omega)
      refine ⟨(2 ^ 64 - 1) * 2 ^ m % 2 ^ 64, ?_, Nat.mod_lt _ (Nat.two_pow_pos 64), fun j => ?_⟩
      · rw [if_neg c, if_neg c2, if_pos (by omega)]
        exact congrArg some (shl64 18446744073709551615 m (by omega))
      · rw [up_bit]
        by_cases h2 : m ≤ j <;> simp [h2]
theorem span_any (lo hi : Int) (h1 : lo < 9223372036854775808) (h2 : hi < 9223372036854775808) (h3 : -9223372036854775808 ≤ hi) :
    ∃ s : Nat, word_Span.f lo hi = some (s : Int) ∧ s < 2 ^ 64 ∧ ∀ j, s.testBit j = (decide (j < 64) && inb lo hi j) := by
  obtain ⟨u, hu, lu, bu⟩ := up_any lo h1
  unfold word_Span.f
  by_cases c : hi ≥ 64
  · refine ⟨u, by rw [if_pos c, hu]; rfl, lu, fun j => ?_⟩
    rw [bu, inb]
    by_cases h : j < 64
    · simp [h]; omega
    · simp [h]
  · by_cases c2 : lo > hi
    · refine ⟨0, by rw [if_neg c, if_pos c2]; rfl, by decide, fun j => ?_⟩
      rw [Nat.zero_testBit, inb]
      by_cases h : lo ≤ (j : Int)
      · have : ¬ (j : Int) ≤ hi := by omega
        simp [this]
      · simp [h]
    · obtain ⟨v, hv, lv, bv⟩ := up_any (hi + 1) (by omega)
      have hs := (bits64 u v lu lv).2.2
      refine ⟨u &&& (2 ^ 64 - 1 - v), ?_, Nat.lt_of_le_of_lt Nat.and_le_left lu, fun j => ?_⟩
      · rw [if_neg c, if_neg c2, hu, wrap_small (hi + 1) (by omega) (by omega), hv, Option.bind_some, Option.bind_some]
        exact congrArg some hs
      · rw [Nat.testBit_and, bu, show 2 ^ 64 - 1 - v = 2 ^ 64 - (v + 1) by omega, Nat.testBit_two_pow_sub_succ lv, bv, inb]
        by_cases h : j < 64
        · by_cases h4 : lo ≤ (j : Int) <;> by_cases h5 : hi + 1 ≤ (j : Int)
          · have : ¬ (j : Int) ≤ hi := by omega
            simp [h, h4, h5, this]
          · have : (j : Int) ≤ hi := by omega
            simp [h, h4, h5, this]
          · simp [h, h4]
          · simp [h, h4]
        · simp [h]
/-- The number that the bits from place 64 - d on make. -/
def sv (lo hi : Int) : Nat → Nat
  | 0 => 0
  | d + 1 => 2 * sv lo hi d + (inb lo hi (63 - d)).toNat
theorem sv_lt (lo hi : Int) : ∀ d, sv lo hi d < 2 ^ d
  | 0 => by simp [sv]
  | d + 1 => by
    have := sv_lt lo hi d
    have hb : (inb lo hi (63 - d)).toNat ≤ 1 := Bool.toNat_le _
    rw [sv, Nat.pow_succ]; omega
theorem sv_bit (lo hi : Int) : ∀ d, d ≤ 64 → ∀ j, (sv lo hi d).testBit j = (decide (j < d) && inb lo hi (64 - d + j))
  | 0 => fun _ j => by simp [sv]
  | d + 1 => fun hd j => by
    have ih := sv_bit lo hi d (by omega)
    have hb : (inb lo hi (63 - d)).toNat ≤ 1 := Bool.toNat_le _
    cases j with
    | zero =>
      rw [Nat.testBit_zero, sv]
      cases h : inb lo hi (63 - d)
      · simp [show 64 - (d + 1) = 63 - d by omega, h]
      · simp [show 64 - (d + 1) = 63 - d by omega, h]
    | succ j =>
      rw [Nat.testBit_succ, sv, show (2 * sv lo hi d + (inb lo hi (63 - d)).toNat) / 2 = sv lo hi d by omega, ih, show 64 - (d + 1) + (j + 1) = 64 - d + j by omega]
      congr 1
      exact decide_eq_decide.2 (by omega)
theorem span_loop (lo hi : Int) (e : Nat) : ∀ (k d : Nat), d ≤ 64 → 64 - d = e → e < k → tamisref01_Span.l0 k lo hi ((sv lo hi d : Nat) : Int) (63 - (d : Int)) = some ((sv lo hi 64 : Nat) : Int) := by
  induction e with
  | zero =>
    intro k d h1 h2 h3
    obtain ⟨k, rfl⟩ : ∃ m, k = m + 1 := ⟨k - 1, by omega⟩
    obtain rfl : d = 64 := by omega
    simp only [tamisref01_Span.l0]
    rw [if_neg (by decide)]
  | succ e ih =>
    intro k d h1 h2 h3
    obtain ⟨k, rfl⟩ : ∃ m, k = m + 1 := ⟨k - 1, by omega⟩
    have lt := sv_lt lo hi d
    have lp : 2 ^ d ≤ 2 ^ 63 := Nat.pow_le_pow_right (by decide) (by omega)
    have l63 : (2 : Nat) ^ 63 = 9223372036854775808 := by decide
    rw [l63] at lp
    obtain ⟨x, hx⟩ : ∃ x, sv lo hi d = x := ⟨_, rfl⟩
    have hs : sv lo hi (d + 1) = 2 * x + (inb lo hi (63 - d)).toNat := by rw [sv, hx]
    rw [hx] at lt ⊢
    have hcast : (63 : Int) - (d : Int) = ((63 - d : Nat) : Int) := by omega
    have ew : wrap64 ((63 : Int) - (d : Int) - 1) = 63 - ((d + 1 : Nat) : Int) := by rw [wrap_small _ (by omega) (by omega)]; omega
    have e1 : IntKind.u64.wrap (2 * (x : Int)) = ((2 * x : Nat) : Int) := by rw [IntKind.wrap_u64]; omega
    have e2 : IntKind.u64.wrap (((2 * x : Nat) : Int) + 1) = ((2 * x + 1 : Nat) : Int) := by rw [IntKind.wrap_u64]; omega
    have ih := ih k (d + 1) (by omega) (by omega) (by omega)
    rw [hs] at ih
    simp only [tamisref01_Span.l0]
    rw [ew, e1, e2, if_pos (by omega)]
    by_cases c1 : 63 - (d : Int) ≥ lo
    · rw [if_pos c1]
      by_cases c2 : 63 - (d : Int) ≤ hi
      · rw [if_pos c2]
        have : inb lo hi (63 - d) = true := by unfold inb; rw [← hcast]; simp [c2]; omega
        rw [this] at ih
        exact ih
      · rw [if_neg c2]
        have : inb lo hi (63 - d) = false := by unfold inb; rw [← hcast]; simp [c2]
        rw [this] at ih
        exact ih
    · rw [if_neg c1]
      have : inb lo hi (63 - d) = false := by unfold inb; rw [← hcast]; simp [show ¬ lo ≤ 63 - (d : Int) by omega]
      rw [this] at ih
      exact ih
theorem ref_span (lo hi : Int) (k : Nat) (hk : 64 < k) : tamisref01_Span.f k lo hi = some ((sv lo hi 64 : Nat) : Int) := span_loop lo hi 64 k 0 (by omega) (by omega) (by omega)

/-! ### The law -/
theorem law_loop (n s : Nat) (lo hi : Int) (hn : n < 18446744073709551616) (hs : s < 18446744073709551616) (hb : ∀ j, s.testBit j = (decide (j < 64) && inb lo hi j)) (d : Nat) :
    ∀ (k i : Nat), i ≤ 64 → 64 - i = d → d < k → tamislaw01_WordBits.l0 k (n : Int) lo hi (s : Int) ((bs n i : Nat) : Int) (i : Int) = some true := by
  induction d with
  | zero =>
    intro k i h1 h2 h3
    obtain ⟨k, rfl⟩ : ∃ m, k = m + 1 := ⟨k - 1, by omega⟩
    obtain rfl : i = 64 := by omega
    simp only [tamislaw01_WordBits.l0]
    rw [if_neg (by decide), ones n hn, Option.bind_some]
    exact congrArg some (beq_iff_eq.2 rfl)
  | succ d ih =>
    intro k i h1 h2 h3
    obtain ⟨k, rfl⟩ : ∃ m, k = m + 1 := ⟨k - 1, by omega⟩
    have hi' : i < 64 := by omega
    have hbi := bs_le n i
    have ih := ih k (i + 1) (by omega) (by omega) (by omega)
    have e1 : wrap64 ((i : Int) + 1) = ((i + 1 : Nat) : Int) := by rw [wrap_small _ (by omega) (by omega)]; omega
    have e2 : wrap64 (((bs n i : Nat) : Int) + 1) = ((bs n i + 1 : Nat) : Int) := by rw [wrap_small _ (by omega) (by omega)]; omega
    have hbit := hb i
    rw [decide_eq_true hi', Bool.true_and, inb] at hbit
    have hm : n / 2 ^ i % 2 < 2 := Nat.mod_lt _ (by decide)
    simp only [tamislaw01_WordBits.l0]
    rw [if_pos (by omega), bit_nat n i hn hi', bit_nat s i hs hi', Option.bind_some, e1, e2, hbit]
    rw [bs] at ih
    by_cases c : n.testBit i = true
    · rw [if_pos c]
      rw [Nat.testBit_eq_decide_div_mod_eq] at c
      have c' := of_decide_eq_true c
      rw [c'] at ih
      rw [Option.bind_some]
      by_cases c1 : (i : Int) ≥ lo
      · rw [if_pos c1, decide_eq_true c1, Bool.true_and, if_neg (by simp)]
        exact ih
      · rw [if_neg c1, decide_eq_false c1, Bool.false_and, if_neg (by simp)]
        exact ih
    · rw [if_neg c]
      rw [Nat.testBit_eq_decide_div_mod_eq] at c
      have c' : n / 2 ^ i % 2 = 0 := by have : ¬ n / 2 ^ i % 2 = 1 := fun h => c (decide_eq_true h); omega
      rw [c', Nat.add_zero] at ih
      rw [Option.bind_some]
      by_cases c1 : (i : Int) ≥ lo
      · rw [if_pos c1, decide_eq_true c1, Bool.true_and, if_neg (by simp)]
        exact ih
      · rw [if_neg c1, decide_eq_false c1, Bool.false_and, if_neg (by simp)]
        exact ih

theorem WordBits : tamislaw01_WordBits.Pure := by
  intro a0 lo hi h0 h1 h2
  have b0 := u64_of h0
  have b1 := i64_of h1
  have b2 := i64_of h2
  obtain ⟨n, rfl⟩ := Int.eq_ofNat_of_zero_le b0.1
  have hn : n < 18446744073709551616 := by omega
  obtain ⟨s, es, ls, bs'⟩ := span_any lo hi b1.2 b2.2 b2.1
  have hsv : sv lo hi 64 = s := by
    apply Nat.eq_of_testBit_eq
    intro j
    rw [sv_bit lo hi 64 (by decide) j, bs' j, Nat.sub_self, Nat.zero_add]
  obtain ⟨b, eb, er⟩ := bits_alike n 100 lo hn (by decide)
  refine ⟨100, ?_⟩
  unfold tamislaw01_WordBits.f
  rw [es, awake_true, ones n hn, ref_ones n 100 (by decide), ref_span lo hi 100 (by decide), eb, er, hsv]
  rw [Option.bind_some, Option.bind_some, if_pos rfl, Option.bind_some, Option.bind_some, if_pos rfl, Option.bind_some, if_pos rfl, Option.bind_some, Option.bind_some]
  rw [show (b != b) = false by simp, show (100 : Nat) = 99 + 1 from rfl]
  simp only [tamislaw01_WordBits.j0]
  rw [if_neg (by decide)]
  exact law_loop n s lo hi hn ls bs' 64 99 0 (by omega) (by omega) (by omega)

end Go.Proofs.Ythcanciolelmgaa.Pure
