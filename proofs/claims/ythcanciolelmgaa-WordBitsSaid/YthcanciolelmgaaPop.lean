/- Plain law: the parallel sum of adjacent bits is how many bits are 1; for every word of 64 bits. -/
import Derived.Test.YthcanciolelmgaaPlain
namespace Go.Proofs.Ythcanciolelmgaa.Pop

/-- The last bits split off: 'and', digit by digit. -/
theorem land_split (w a b x y : Nat) (ha : a < 2 ^ w) (hb : b < 2 ^ w) : (a + 2 ^ w * x) &&& (b + 2 ^ w * y) = (a &&& b) + 2 ^ w * (x &&& y) := by
  have hab : a &&& b < 2 ^ w := Nat.and_lt_two_pow _ hb
  apply Nat.eq_of_testBit_eq
  intro i
  rw [Nat.testBit_and]
  have t : ∀ c z, c < 2 ^ w → (c + 2 ^ w * z).testBit i = if i < w then c.testBit i else z.testBit (i - w) := by
    intro c z hc
    rw [Nat.add_comm, Nat.testBit_two_pow_mul_add z hc]
  rw [t a x ha, t b y hb, t _ _ hab]
  by_cases h : i < w
  · rw [if_pos h, if_pos h, if_pos h, Nat.testBit_and]
  · rw [if_neg h, if_neg h, if_neg h, Nat.testBit_and]

/-- n digits of four bits, all alike. -/
def reps (d : Nat) : Nat → Nat
  | 0 => 0
  | n + 1 => d + 16 * reps d n

def pc4 (a : Nat) : Nat := a % 2 + a / 2 % 2 + a / 4 % 2 + a / 8 % 2
/-- How many bits of the first n digits are 1. -/
def pc (x : Nat) : Nat → Nat
  | 0 => 0
  | n + 1 => pc4 (x % 16) + pc (x / 16) n
/-- These counts, digit by digit. -/
def pd (x : Nat) : Nat → Nat
  | 0 => 0
  | n + 1 => pc4 (x % 16) + 16 * pd (x / 16) n

def s1 (x n : Nat) : Nat := (x / 2 &&& reps 5 n) + (x &&& reps 5 n)
def s2 (x n : Nat) : Nat := (x / 4 &&& reps 3 n) + (x &&& reps 3 n)

theorem d1 : ∀ a, a < 16 → ∀ p, p < 2 → ((a / 2 + 8 * p) &&& 5) + (a &&& 5) = (a / 2 &&& 5) + (a &&& 5) ∧ (a / 2 &&& 5) + (a &&& 5) < 16 := by decide
theorem d2 : ∀ a, a < 16 → ∀ p, p < 4 → ((((a / 2 &&& 5) + (a &&& 5)) / 4 + 4 * p) &&& 3) + (((a / 2 &&& 5) + (a &&& 5)) &&& 3) = pc4 a := by decide
theorem pc4_le : ∀ a, a < 16 → pc4 a ≤ 4 := by decide

theorem s1_step (x n : Nat) : s1 x (n + 1) = ((x % 16 / 2 &&& 5) + (x % 16 &&& 5)) + 16 * s1 (x / 16) n := by
  have hx : x = x % 16 + 2 ^ 4 * (x / 16) := by have := Nat.div_add_mod x 16; omega
  have hy : x / 2 = (x % 16 / 2 + 8 * (x / 16 % 2)) + 2 ^ 4 * (x / 16 / 2) := by omega
  have h := d1 (x % 16) (by omega) (x / 16 % 2) (by omega)
  have e1 : x / 2 &&& reps 5 (n + 1) = ((x % 16 / 2 + 8 * (x / 16 % 2)) &&& 5) + 2 ^ 4 * (x / 16 / 2 &&& reps 5 n) := by
    rw [hy]; exact land_split 4 _ 5 _ _ (by omega) (by decide)
  have e2 : x &&& reps 5 (n + 1) = (x % 16 &&& 5) + 2 ^ 4 * (x / 16 &&& reps 5 n) := by
    rw [show x &&& reps 5 (n + 1) = (x % 16 + 2 ^ 4 * (x / 16)) &&& reps 5 (n + 1) by rw [← hx]]; exact land_split 4 _ 5 _ _ (by omega) (by decide)
  unfold s1
  omega

theorem s2_step (x n : Nat) : s2 (s1 x (n + 1)) (n + 1) = pc4 (x % 16) + 16 * s2 (s1 (x / 16) n) n := by
  rw [s1_step]
  obtain ⟨c, hc⟩ : ∃ c, (x % 16 / 2 &&& 5) + (x % 16 &&& 5) = c := ⟨_, rfl⟩
  obtain ⟨y, hy⟩ : ∃ y, s1 (x / 16) n = y := ⟨_, rfl⟩
  have h1 := (d1 (x % 16) (by omega) 0 (by omega)).2
  have h2 := d2 (x % 16) (by omega) (y % 4) (by omega)
  rw [hc] at h1 h2 ⊢
  rw [hy]
  have e1 : (c + 16 * y) / 4 &&& reps 3 (n + 1) = ((c / 4 + 4 * (y % 4)) &&& 3) + 2 ^ 4 * (y / 4 &&& reps 3 n) := by
    rw [show (c + 16 * y) / 4 = (c / 4 + 4 * (y % 4)) + 2 ^ 4 * (y / 4) by omega]; exact land_split 4 _ 3 _ _ (by omega) (by decide)
  have e2 : (c + 16 * y) &&& reps 3 (n + 1) = (c &&& 3) + 2 ^ 4 * (y &&& reps 3 n) := land_split 4 _ 3 _ _ h1 (by decide)
  unfold s2
  omega

theorem s2_pd (n : Nat) : ∀ x, s2 (s1 x n) n = pd x n := by
  induction n with
  | zero => intro x; simp [s2, s1, reps, pd]
  | succ n ih => intro x; rw [s2_step, ih]; rfl

/-- The digits of eight bits: the counts of two digits each. -/
def pe (x : Nat) : Nat → Nat
  | 0 => 0
  | n + 1 => pc4 (x % 16) + pc4 (x / 16 % 16) + 256 * pe (x / 256) n
def reps8 : Nat → Nat
  | 0 => 0
  | n + 1 => 15 + 256 * reps8 n
theorem d3 : ∀ a, a < 9 → ∀ b, b < 9 → ((a + 16 * b) &&& 15) = a := by decide

theorem pd_low (x n : Nat) : pd x n % 16 ≤ 4 := by
  cases n with
  | zero => simp [pd]
  | succ n => have := pc4_le (x % 16) (by omega); unfold pd; omega
theorem s3_pe (n : Nat) : ∀ x, (pd x (2 * n) / 16 + pd x (2 * n)) &&& reps8 n = pe x n := by
  induction n with
  | zero => intro x; simp [pd, reps8, pe]
  | succ n ih =>
    intro x
    have e : pd x (2 * (n + 1)) = pc4 (x % 16) + 16 * (pc4 (x / 16 % 16) + 16 * pd (x / 256) (2 * n)) := by
      rw [show 2 * (n + 1) = 2 * n + 1 + 1 by omega]
      simp only [pd]
      rw [Nat.div_div_eq_div_mul]
    have l0 := pc4_le (x % 16) (by omega)
    have l1 := pc4_le (x / 16 % 16) (by omega)
    have l2 := pd_low (x / 256) (2 * n)
    obtain ⟨p, hp⟩ : ∃ p, pc4 (x % 16) = p := ⟨_, rfl⟩
    obtain ⟨q, hq⟩ : ∃ q, pc4 (x / 16 % 16) = q := ⟨_, rfl⟩
    have ih := ih (x / 256)
    obtain ⟨z, hz⟩ : ∃ z, pd (x / 256) (2 * n) = z := ⟨_, rfl⟩
    rw [e, pe, hp, hq]
    rw [hp] at l0
    rw [hq] at l1
    rw [hz] at l2 ih ⊢
    have k := d3 (p + q) (by omega) (q + z % 16) (by omega)
    rw [show (p + 16 * (q + 16 * z)) / 16 + (p + 16 * (q + 16 * z)) = ((p + q) + 16 * (q + z % 16)) + 2 ^ 8 * (z / 16 + z) by omega]
    rw [show reps8 (n + 1) = 15 + 2 ^ 8 * reps8 n from rfl, land_split 8 _ 15 _ _ (by omega) (by decide), k, ih]

theorem pe8 (x : Nat) : ∃ a0 a1 a2 a3 a4 a5 a6 a7 : Nat, pe x 8 = a0 + 256 * (a1 + 256 * (a2 + 256 * (a3 + 256 * (a4 + 256 * (a5 + 256 * (a6 + 256 * a7))))))
    ∧ pc x 16 = a0 + a1 + a2 + a3 + a4 + a5 + a6 + a7 ∧ a0 ≤ 8 ∧ a1 ≤ 8 ∧ a2 ≤ 8 ∧ a3 ≤ 8 ∧ a4 ≤ 8 ∧ a5 ≤ 8 ∧ a6 ≤ 8 ∧ a7 ≤ 8 := by
  have l : ∀ y : Nat, pc4 (y % 16) ≤ 4 := fun y => pc4_le _ (Nat.mod_lt _ (by decide))
  have l' : ∀ y : Nat, pc4 (y % 16) + pc4 (y / 16 % 16) ≤ 8 := fun y => by have := l y; have := l (y / 16); omega
  have u : ∀ y n, pe y (n + 1) = (pc4 (y % 16) + pc4 (y / 16 % 16)) + 256 * pe (y / 256) n := fun _ _ => rfl
  have v : ∀ y n, pc y (n + 2) = (pc4 (y % 16) + pc4 (y / 16 % 16)) + pc (y / 256) n := fun y n => by
    show pc4 (y % 16) + (pc4 (y / 16 % 16) + pc (y / 16 / 16) n) = _
    rw [Nat.div_div_eq_div_mul, Nat.add_assoc]
  refine ⟨_, _, _, _, _, _, _, _, ?_, ?_, l' x, l' (x / 256), l' (x / 256 / 256), l' (x / 256 / 256 / 256), l' (x / 256 / 256 / 256 / 256), l' (x / 256 / 256 / 256 / 256 / 256), l' (x / 256 / 256 / 256 / 256 / 256 / 256), l' (x / 256 / 256 / 256 / 256 / 256 / 256 / 256)⟩
  · rw [u, u, u, u, u, u, u, u, show ∀ y, pe y 0 = 0 from fun _ => rfl, Nat.mul_zero, Nat.add_zero]
  · rw [v, v, v, v, v, v, v, v, show ∀ y, pc y 0 = 0 from fun _ => rfl]
    simp only [Nat.add_zero, Nat.add_assoc]

theorem q_ (c D m : Nat) (hm : 0 < m) (hc : c < m) : (c + m * D) / m = D := by
  rw [Nat.add_mul_div_left _ _ hm, Nat.div_eq_of_lt hc, Nat.zero_add]
theorem lt1 (a0 a1 a2 a3 : Nat) (h0 : a0 ≤ 64) (h1 : a1 ≤ 64) (h2 : a2 ≤ 64) (h3 : a3 ≤ 64) : a0 + 256 * (a1 + 256 * (a2 + 256 * a3)) < 4294967296 := by omega
theorem lt2 (a0 a1 a2 a3 a4 a5 a6 a7 : Nat) (h0 : a0 ≤ 8) (h1 : a1 ≤ 8) (h2 : a2 ≤ 8) (h3 : a3 ≤ 8) (h4 : a4 ≤ 8) (h5 : a5 ≤ 8) (h6 : a6 ≤ 8) (h7 : a7 ≤ 8) : a0 + 256 * (a1 + 256 * (a2 + 256 * (a3 + 256 * (a4 + 256 * (a5 + 256 * (a6 + 256 * a7)))))) < 1000000000000000000 := by omega
theorem step1 (a0 a1 a2 a3 a4 a5 a6 a7 : Nat) : a0 + 256 * (a1 + 256 * (a2 + 256 * (a3 + 256 * (a4 + 256 * (a5 + 256 * (a6 + 256 * a7)))))) + (a1 + 256 * (a2 + 256 * (a3 + 256 * (a4 + 256 * (a5 + 256 * (a6 + 256 * a7))))))
    = ((a0 + a1) + 256 * (a1 + a2)) + 65536 * ((a2 + a3) + 256 * ((a3 + a4) + 256 * ((a4 + a5) + 256 * ((a5 + a6) + 256 * ((a6 + a7) + 256 * a7))))) := by omega
theorem step2 (a0 a1 a2 a3 a4 a5 a6 a7 : Nat) : ((a0 + a1) + 256 * (a1 + a2)) + 65536 * ((a2 + a3) + 256 * ((a3 + a4) + 256 * ((a4 + a5) + 256 * ((a5 + a6) + 256 * ((a6 + a7) + 256 * a7))))) + ((a2 + a3) + 256 * ((a3 + a4) + 256 * ((a4 + a5) + 256 * ((a5 + a6) + 256 * ((a6 + a7) + 256 * a7)))))
    = ((a0 + a1 + a2 + a3) + 256 * ((a1 + a2 + a3 + a4) + 256 * ((a2 + a3 + a4 + a5) + 256 * (a3 + a4 + a5 + a6)))) + 4294967296 * ((a4 + a5 + a6 + a7) + 256 * ((a5 + a6 + a7) + 256 * ((a6 + a7) + 256 * a7))) := by omega
theorem step3 (a0 a1 a2 a3 a4 a5 a6 a7 : Nat) : ((a0 + a1 + a2 + a3) + 256 * ((a1 + a2 + a3 + a4) + 256 * ((a2 + a3 + a4 + a5) + 256 * (a3 + a4 + a5 + a6)))) + 4294967296 * ((a4 + a5 + a6 + a7) + 256 * ((a5 + a6 + a7) + 256 * ((a6 + a7) + 256 * a7))) + ((a4 + a5 + a6 + a7) + 256 * ((a5 + a6 + a7) + 256 * ((a6 + a7) + 256 * a7)))
    = (a0 + a1 + a2 + a3 + a4 + a5 + a6 + a7) + 128 * (2 * (((a1 + a2 + a3 + a4) + 256 * ((a2 + a3 + a4 + a5) + 256 * (a3 + a4 + a5 + a6))) + 16777216 * ((a4 + a5 + a6 + a7) + 256 * ((a5 + a6 + a7) + 256 * ((a6 + a7) + 256 * a7))) + ((a5 + a6 + a7) + 256 * ((a6 + a7) + 256 * a7)))) := by omega

/-- The last three sums. -/
theorem fold8 (a0 a1 a2 a3 a4 a5 a6 a7 t : Nat) (h0 : a0 ≤ 8) (h1 : a1 ≤ 8) (h2 : a2 ≤ 8) (h3 : a3 ≤ 8) (h4 : a4 ≤ 8) (h5 : a5 ≤ 8) (h6 : a6 ≤ 8) (h7 : a7 ≤ 8)
    (ht : t = a0 + 256 * (a1 + 256 * (a2 + 256 * (a3 + 256 * (a4 + 256 * (a5 + 256 * (a6 + 256 * a7))))))) :
    ∃ u v w : Nat, u = t + t / 256 ∧ v = u + u / 65536 ∧ w = v + v / 4294967296 ∧ w % 128 = a0 + a1 + a2 + a3 + a4 + a5 + a6 + a7 ∧ t < 1000000000000000000 ∧ u < 2000000000000000000 ∧ v < 3000000000000000000 ∧ w < 4000000000000000000 := by
  have b0 : t < 1000000000000000000 := ht ▸ lt2 a0 a1 a2 a3 a4 a5 a6 a7 h0 h1 h2 h3 h4 h5 h6 h7
  have g1 : a0 < 256 := by clear ht; omega
  have g2 : (a0 + a1) + 256 * (a1 + a2) < 65536 := by clear ht; omega
  have g3 := lt1 (a0 + a1 + a2 + a3) (a1 + a2 + a3 + a4) (a2 + a3 + a4 + a5) (a3 + a4 + a5 + a6) (by clear ht; omega) (by clear ht; omega) (by clear ht; omega) (by clear ht; omega)
  have e1 : t / 256 = a1 + 256 * (a2 + 256 * (a3 + 256 * (a4 + 256 * (a5 + 256 * (a6 + 256 * a7))))) := by
    rw [ht]; exact q_ _ _ 256 (by decide) g1
  obtain ⟨u, hu⟩ : ∃ u, u = t + t / 256 := ⟨_, rfl⟩
  have f1 := hu
  rw [e1, ht, step1] at f1
  have e2 : u / 65536 = (a2 + a3) + 256 * ((a3 + a4) + 256 * ((a4 + a5) + 256 * ((a5 + a6) + 256 * ((a6 + a7) + 256 * a7)))) := by
    rw [f1]; exact q_ _ _ 65536 (by decide) g2
  obtain ⟨v, hv⟩ : ∃ v, v = u + u / 65536 := ⟨_, rfl⟩
  have f2 := hv
  rw [e2, f1, step2] at f2
  obtain ⟨c, hc⟩ : ∃ c, c = (a0 + a1 + a2 + a3) + 256 * ((a1 + a2 + a3 + a4) + 256 * ((a2 + a3 + a4 + a5) + 256 * (a3 + a4 + a5 + a6))) := ⟨_, rfl⟩
  obtain ⟨D, hD⟩ : ∃ D, D = (a4 + a5 + a6 + a7) + 256 * ((a5 + a6 + a7) + 256 * ((a6 + a7) + 256 * a7)) := ⟨_, rfl⟩
  have e3 : v / 4294967296 = D := by
    rw [f2, ← hc, ← hD]
    rw [← hc] at g3
    clear hc hD f2 hv e2 f1 hu e1 g2 g1 b0 ht
    omega
  obtain ⟨w, hw⟩ : ∃ w, w = v + v / 4294967296 := ⟨_, rfl⟩
  have f3 := hw
  rw [e3, f2, hD, step3] at f3
  have b1 : u < 2000000000000000000 := by clear f3 hw e3 hD hc f2 hv e2 f1 e1 ht g2 g3; omega
  have b2 : v < 3000000000000000000 := by clear f3 hw e3 hD hc f2 e2 f1 e1 ht hu g2 g3 b0; omega
  have b3 : w < 4000000000000000000 := by clear f3 e3 hD hc f2 e2 f1 e1 ht hu hv g2 g3 b0 b1; omega
  refine ⟨u, v, w, hu, hv, hw, ?_, b0, b1, b2, b3⟩
  rw [f3, Nat.add_mul_mod_self_left]
  exact Nat.mod_eq_of_lt (by clear f3 hw e3 hD hc f2 hv e2 f1 e1 ht hu g2 g3 b0 b1 b2 b3; omega)

end Go.Proofs.Ythcanciolelmgaa.Pop
