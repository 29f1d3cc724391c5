/- Plain laws of layer 6: the first that is wrong alone; what is written for sure ahead of each, as the program and the document tell it. -/
import Derived.Test.YtmjpibeiglicdaaVerA
import Derived.Test.YtmjpibeiglicdaaX8
namespace Go.Proofs.Ytmjpibeiglicdaa.Ver
open Go.RowKit Go.Proofs.Ytmjpibeiglicdaa.X Go.Proofs.YtmjpibeiglicdaaW.PrintWords Go.Proofs.YtmjpibeiglicdaaW.PrintLast Go.Proofs.YtmjpibeiglicdaaW.PrintMore
open Go.Proofs.Ytmjpibeiglicdaa.Code (kindOf codes)

def at_ (l : List S56) (i : Nat) : S56 := l.getD i z56
theorem rd_at (l : List S56) (i : Nat) : rd_T56 l (i : Int) = at_ l i := by simp [rd_T56, at_]
structure Ok (l : List S56) : Prop where
  len : l.length ≤ 10000
  fit : ∀ x ∈ l, Fit x
theorem Ok.at_ {l : List S56} (h : Ok l) (i : Nat) : Fit (at_ l i) := by
  unfold Ver.at_
  by_cases hi : i < l.length
  · rw [List.getD_eq_getElem?_getD, List.getElem?_eq_getElem hi]; exact h.fit _ (List.getElem_mem hi)
  · rw [List.getD_eq_getElem?_getD, List.getElem?_eq_none (by omega)]; exact fit_z
def errAt (l : List S56) (i : Nat) : Int := locE l.length i (at_ l i)
theorem local_ev (l : List S56) (h : Ok l) (i : Nat) (hi : i < l.length) : Ev (fun k => verify_Local.f k l (i : Int)) (errAt l i) :=
  local_in l h.len i hi _ (rd_at l i) (h.at_ i)
theorem ref_local_ev (l : List S56) (h : Ok l) (i : Nat) (hi : i < l.length) : Ev (fun k => tamisref06_Local.f k l (i : Int)) (errAt l i) :=
  ref_local_in l h.len i hi _ (rd_at l i) (h.at_ i)

/-! ### The first that is wrong alone -/
def bad (l : List S56) : Nat → Nat → Int × Int
  | 0, _ => (0, 0)
  | d + 1, i => if errAt l i = 0 then bad l d (i + 1) else ((i : Int), errAt l i)
theorem bad_zero (l : List S56) : ∀ d i, (bad l d i).2 = 0 ↔ ∀ j, i ≤ j → j < i + d → errAt l j = 0
  | 0, i => by simp [bad]; intro j h1 h2; omega
  | d + 1, i => by
    rw [bad]
    by_cases h : errAt l i = 0
    · rw [if_pos h, bad_zero l d (i + 1)]
      constructor
      · intro H j h1 h2
        by_cases e : j = i
        · rw [e]; exact h
        · exact H j (by omega) (by omega)
      · intro H j h1 h2; exact H j (by omega) (by omega)
    · rw [if_neg h]
      constructor
      · intro H; exact absurd H h
      · intro H; exact absurd (H i (by omega) (by omega)) h
theorem bad_none (l : List S56) : ∀ d i, (bad l d i).2 = 0 → bad l d i = (0, 0)
  | 0, i, _ => rfl
  | d + 1, i, h => by
    rw [bad] at h ⊢
    by_cases c : errAt l i = 0
    · rw [if_pos c] at h ⊢; exact bad_none l d (i + 1) h
    · rw [if_neg c] at h; exact absurd h c
def whole (l : List S56) : Int × Int := if l.length = 0 then (0, 4) else if l.length > 4096 then (0, 5) else bad l l.length 0
theorem whole_loop (l : List S56) (h : Ok l) : ∀ d i, i + d = l.length → Ev (fun k => verify_whole.l0 k l (l.length : Int) (i : Int)) (bad l d i)
  | 0, i, hi => Ev.step (fun k => by rw [verify_whole.l0, if_neg (by omega)]; rfl) (Ev.now _)
  | d + 1, i, hi => by
    refine Ev.step (fun k => by rw [verify_whole.l0, if_pos (by omega)]) ?_
    refine Ev.bind (local_ev l h i (by omega)) ?_
    rw [bad]
    by_cases c : errAt l i = 0
    · rw [if_pos c]
      refine Ev.congr (fun k => by rw [if_pos c, ws ((i : Int) + 1) (by have := h.len; omega) (by have := h.len; omega)]) ?_
      exact whole_loop l h d (i + 1) (by omega)
    · rw [if_neg c]; exact Ev.congr (fun k => by rw [if_neg c]) (Ev.now _)
theorem whole_ev (l : List S56) (h : Ok l) : Ev (fun k => verify_whole.f k l) (whole l) := by
  unfold verify_whole.f whole
  by_cases c : l.length = 0
  · rw [if_pos c]; exact Ev.congr (fun k => by rw [if_pos (by omega)]) (Ev.now _)
  · rw [if_neg c]
    by_cases c2 : l.length > 4096
    · rw [if_pos c2]; exact Ev.congr (fun k => by rw [if_neg (by omega), if_pos (by omega)]) (Ev.now _)
    · rw [if_neg c2]
      refine Ev.congr (fun k => by rw [if_neg (by omega), if_neg (by omega)]) ?_
      exact whole_loop l h l.length 0 (by omega)
theorem ref_whole_loop (l : List S56) (h : Ok l) : ∀ d i, i + d = l.length → Ev (fun k => tamisref06_whole.l0 k l (i : Int)) (decide ((bad l d i).2 = 0) && decide (1 ≤ l.length ∧ l.length ≤ 4096))
  | 0, i, hi => by
    refine Ev.step (fun k => by rw [tamisref06_whole.l0, if_neg (by omega)]) ?_
    rw [show decide ((bad l 0 i).2 = 0) = true from rfl, Bool.true_and]
    by_cases c : 1 ≤ l.length
    · refine Ev.congr (fun k => by rw [if_pos (by omega), show decide ((l.length : Int) ≤ 4096) = decide (1 ≤ l.length ∧ l.length ≤ 4096) from decide_eq_decide.2 (by omega)]) (Ev.now _)
    · rw [decide_eq_false (show ¬ (1 ≤ l.length ∧ l.length ≤ 4096) by omega)]
      exact Ev.congr (fun k => by rw [if_neg (by omega)]) (Ev.now _)
  | d + 1, i, hi => by
    refine Ev.step (fun k => by rw [tamisref06_whole.l0, if_pos (by omega)]) ?_
    refine Ev.bind (ref_local_ev l h i (by omega)) ?_
    rw [bad]
    by_cases c : errAt l i = 0
    · rw [if_pos c]
      refine Ev.congr (fun k => by rw [if_pos c, ws ((i : Int) + 1) (by have := h.len; omega) (by have := h.len; omega)]) ?_
      exact ref_whole_loop l h d (i + 1) (by omega)
    · rw [if_neg c, show decide (errAt l i = 0) = false from decide_eq_false c, Bool.false_and]
      exact Ev.congr (fun k => by rw [if_neg c]) (Ev.now _)
theorem ref_whole_ev (l : List S56) (h : Ok l) : Ev (fun k => tamisref06_whole.f k l) (decide ((whole l).2 = 0)) := by
  have := ref_whole_loop l h l.length 0 (by omega)
  unfold tamisref06_whole.f
  have e : decide ((whole l).2 = 0) = (decide ((bad l l.length 0).2 = 0) && decide (1 ≤ l.length ∧ l.length ≤ 4096)) := by
    unfold whole
    by_cases c : l.length = 0
    · rw [if_pos c, decide_eq_false (show ¬ (1 ≤ l.length ∧ l.length ≤ 4096) by omega), Bool.and_false]; rfl
    · rw [if_neg c]
      by_cases c2 : l.length > 4096
      · rw [if_pos c2, decide_eq_false (show ¬ (1 ≤ l.length ∧ l.length ≤ 4096) by omega), Bool.and_false]; rfl
      · rw [if_neg c2, decide_eq_true (show 1 ≤ l.length ∧ l.length ≤ 4096 by omega), Bool.and_true]
  rw [e]
  exact this

/-! ### Bits of a word of 16 -/
def numN (g : Nat → Bool) : Nat → Nat
  | 0 => 0
  | d + 1 => 2 ^ d * (g d).toNat + numN g d
theorem numN_lt (g : Nat → Bool) : ∀ d, numN g d < 2 ^ d
  | 0 => by simp [numN]
  | d + 1 => by
    have := numN_lt g d
    rw [numN, Nat.pow_succ]
    cases g d <;> simp <;> omega
theorem numN_bit (g : Nat → Bool) : ∀ d j, (numN g d).testBit j = (decide (j < d) && g j)
  | 0, j => by simp [numN]
  | d + 1, j => by
    rw [numN, Nat.testBit_two_pow_mul_add _ (numN_lt g d)]
    by_cases h : j < d
    · rw [if_pos h, numN_bit g d j, decide_eq_true h, decide_eq_true (by omega)]
    · rw [if_neg h]
      by_cases e : j = d
      · subst e
        rw [Nat.sub_self, decide_eq_true (by omega), Bool.true_and]
        cases g j <;> rfl
      · rw [decide_eq_false (by omega), Bool.false_and]
        have hb : (g d).toNat < 2 ^ (j - d) := by
          have : 2 ^ 1 ≤ 2 ^ (j - d) := Nat.pow_le_pow_right (by decide) (show 1 ≤ j - d by omega)
          have : (g d).toNat ≤ 1 := Bool.toNat_le _
          omega
        exact Nat.testBit_lt_two_pow hb
theorem numN_congr {g h : Nat → Bool} {d : Nat} (e : ∀ j, j < d → g j = h j) : numN g d = numN h d := by
  apply Nat.eq_of_testBit_eq
  intro j
  rw [numN_bit, numN_bit]
  by_cases c : j < d
  · rw [e j c]
  · rw [decide_eq_false c, Bool.false_and, Bool.false_and]
def num (g : Nat → Bool) : Int := ((numN g 16 : Nat) : Int)
theorem num_range (g : Nat → Bool) : 0 ≤ num g ∧ num g < 65536 := by
  have := numN_lt g 16
  rw [show (2 : Nat) ^ 16 = 65536 from rfl] at this
  unfold num; omega
theorem bits16 (a b : Nat) (ha : a < 65536) (hb : b < 65536) : Go.bits .and .u16 a b = ((a &&& b : Nat) : Int) ∧ Go.bits .or .u16 a b = ((a ||| b : Nat) : Int) :=
  bits_nat .u16 16 (by decide) (fun n h0 h1 => by
    have : IntKind.u16.wrap n = n % 65536 := by simp [IntKind.wrap, IntKind.bits, IntKind.signed]
    rw [this]; omega) a b ha hb
theorem num_and (g h : Nat → Bool) : Go.bits .and .u16 (num g) (num h) = num fun w => g w && h w := by
  have := (bits16 (numN g 16) (numN h 16) (numN_lt g 16) (numN_lt h 16)).1
  unfold num
  rw [this]
  refine congrArg (fun x : Nat => (x : Int)) (Nat.eq_of_testBit_eq fun j => ?_)
  rw [Nat.testBit_and, numN_bit, numN_bit, numN_bit]
  by_cases c : j < 16 <;> simp [c]
theorem num_or (g h : Nat → Bool) : Go.bits .or .u16 (num g) (num h) = num fun w => g w || h w := by
  have := (bits16 (numN g 16) (numN h 16) (numN_lt g 16) (numN_lt h 16)).2
  unfold num
  rw [this]
  refine congrArg (fun x : Nat => (x : Int)) (Nat.eq_of_testBit_eq fun j => ?_)
  rw [Nat.testBit_or, numN_bit, numN_bit, numN_bit]
  by_cases c : j < 16 <;> simp [c]
theorem num_one (K : Nat) (h : K < 16) : shl .u16 1 (K : Int) = num fun w => decide (w = K) := by
  have : ∀ K : Nat, K < 16 → shl .u16 1 (K : Int) = num fun w => decide (w = K) := by decide +kernel
  exact this K h
theorem num_all : (65535 : Int) = num fun _ => true := by decide +kernel
theorem num_none : (0 : Int) = num fun _ => false := by decide +kernel
theorem num_read (g : Nat → Bool) (K : Nat) (h : K < 16) : (Go.bits .and .u16 (shr .u16 (num g) (K : Int)) 1 = 0) ↔ g K = false := by
  have hl := numN_lt g 16
  have e1 : shr .u16 (num g) (K : Int) = ((numN g 16 / 2 ^ K : Nat) : Int) := by
    unfold shr num
    rw [Int.toNat_natCast, show min K IntKind.u16.bits = K from Nat.min_eq_left (by have : IntKind.u16.bits = 16 := rfl; omega), Int.natCast_ediv, Int.natCast_pow]; rfl
  have e2 := (bits16 (numN g 16 / 2 ^ K) 1 (Nat.lt_of_le_of_lt (Nat.div_le_self _ _) hl) (by decide)).1
  rw [Nat.and_one_is_mod] at e2
  have e3 : Go.bits .and .u16 ((numN g 16 / 2 ^ K : Nat) : Int) 1 = ((numN g 16 / 2 ^ K % 2 : Nat) : Int) := e2
  have e4 := numN_bit g 16 K
  rw [decide_eq_true h, Bool.true_and, Nat.testBit_eq_decide_div_mod_eq] at e4
  have hm : numN g 16 / 2 ^ K % 2 < 2 := Nat.mod_lt _ (by decide)
  rw [e1, e3, ← e4]
  constructor
  · intro h0; exact decide_eq_false (by omega)
  · intro h0; have := of_decide_eq_false h0; omega

/-! ### Which places come without a write -/
def tgt (l : List S56) (i : Nat) : List Nat := (jmp (at_ l i)).map fun j => i + 1 + j.toNat
def st (l : List S56) (w i : Nat) : Bool := decide (kindOf (at_ l i).f0 = 8 ∨ kindOf (at_ l i).f0 = 9) && decide ((at_ l i).f3 = (w : Int))
def setT (n : Nat) (b : List Bool) : List Nat → List Bool
  | [] => b
  | t :: r => setT n (if t < n then b.set t true else b) r
def bareS (l : List S56) (w : Nat) : Nat → List Bool
  | 0 => (List.replicate l.length false).set 0 true
  | i + 1 => if (bareS l w i).getD i false = true ∧ st l w i = false then setT l.length (bareS l w i) (tgt l i) else bareS l w i
theorem setT_len (n : Nat) : ∀ (ts : List Nat) (b : List Bool), (setT n b ts).length = b.length
  | [], b => rfl
  | t :: r, b => by
    rw [setT, setT_len n r]
    by_cases c : t < n
    · rw [if_pos c, List.length_set]
    · rw [if_neg c]
theorem bare_len (l : List S56) (w : Nat) : ∀ i, (bareS l w i).length = l.length
  | 0 => by simp [bareS]
  | i + 1 => by
    rw [bareS]
    by_cases c : (bareS l w i).getD i false = true ∧ st l w i = false
    · rw [if_pos c, setT_len, bare_len l w i]
    · rw [if_neg c, bare_len l w i]
theorem jmp_range (x : S56) (hf : Fit x) : ∀ j ∈ jmp x, 0 ≤ j ∧ j < 4294967296 := by
  obtain ⟨a0, a1, b0, b1, c0, c1, d0, d1⟩ := hf
  unfold jmp
  intro j hj
  split at hj
  · simp at hj; omega
  · split at hj
    · simp at hj; omega
    · split at hj
      · simp at hj
      · split at hj
        · simp at hj
        · simp at hj; omega
theorem next_ev (l : List S56) (h : Ok l) (i : Nat) (hi : i < l.length) : Ev (fun k => tamisref06_Next.f k l (i : Int)) ((tgt l i).map fun t : Nat => (t : Int)) := by
  have hl := h.len
  obtain ⟨a0, a1, b0, b1, c0, c1, d0, d1⟩ := h.at_ i
  unfold tamisref06_Next.f
  refine Ev.congr (fun k => by rw [if_pos (by omega), if_pos (by omega), rd_at]) ?_
  refine Ev.bind (ref_kind (at_ l i).f0) ?_
  have w1 : wrap64 ((i : Int) + 1) = (i : Int) + 1 := ws _ (by omega) (by omega)
  have wj : ∀ j : Int, 0 ≤ j → j < 4294967296 → wrap64 ((i : Int) + 1 + wrap64 j) = ((i + 1 + j.toNat : Nat) : Int) := fun j p q => by rw [ws j (by omega) (by omega), ws _ (by omega) (by omega)]; omega
  unfold tgt jmp
  rw [w1]
  by_cases k11 : kindOf (at_ l i).f0 = 11
  · rw [if_pos k11]; exact Ev.congr (fun k => by rw [if_pos k11, wj _ d0 d1]; rfl) (Ev.now _)
  rw [if_neg k11]
  by_cases k12 : kindOf (at_ l i).f0 = 12
  · rw [if_pos k12]; exact Ev.congr (fun k => by rw [if_neg k11, if_pos k12, wj _ b0 (by omega), wj _ c0 (by omega)]; rfl) (Ev.now _)
  rw [if_neg k12]
  by_cases k13 : kindOf (at_ l i).f0 = 13
  · rw [if_pos k13]; exact Ev.congr (fun k => by rw [if_neg k11, if_neg k12, if_pos k13]; rfl) (Ev.now _)
  rw [if_neg k13]
  by_cases k14 : kindOf (at_ l i).f0 = 14
  · rw [if_pos k14]; exact Ev.congr (fun k => by rw [if_neg k11, if_neg k12, if_neg k13, if_pos k14]; rfl) (Ev.now _)
  rw [if_neg k14]
  exact Ev.congr (fun k => by rw [if_neg k11, if_neg k12, if_neg k13, if_neg k14]; rfl) (Ev.now _)

theorem tgt_len (l : List S56) (i : Nat) : (tgt l i).length ≤ 2 := by
  unfold tgt jmp
  rw [List.length_map]
  (repeat' split) <;> simp
theorem without_inner (l : List S56) (h : Ok l) (w i : Nat) (hi : i < l.length) (ts : List Nat) (hts : ts.length ≤ 2) (r : List Bool) : ∀ (d m : Nat) (b : List Bool), m + d = ts.length → b.length = l.length →
    Ev (fun k => tamisref06_Without.l0 k l (w : Int) (setT l.length b (ts.drop m)) ((i + 1 : Nat) : Int)) r →
    Ev (fun k => tamisref06_Without.l1 k l (w : Int) b (i : Int) (ts.map fun t : Nat => (t : Int)) (m : Int)) r
  | 0, m, b, hm, hb, H => by
    rw [List.drop_eq_nil_of_le (by omega), setT] at H
    have hl := h.len
    refine Ev.step (fun k => by rw [tamisref06_Without.l1, if_neg (by rw [List.length_map]; omega), ws ((i : Int) + 1) (by omega) (by omega)]) ?_
    exact H
  | d + 1, m, b, hm, hb, H => by
    have hl := h.len
    have hlt : m < ts.length := by omega
    rw [List.drop_eq_getElem_cons hlt, setT] at H
    obtain ⟨t, ht⟩ : ∃ t, ts[m] = t := ⟨_, rfl⟩
    rw [ht] at H
    have er : rd (ts.map fun t : Nat => (t : Int)) (m : Int) = (t : Int) := by simp [rd, hlt, ht]
    have ew : wrap64 ((m : Int) + 1) = ((m + 1 : Nat) : Int) := by rw [ws _ (by omega) (by omega)]; omega
    by_cases c : t < l.length
    · rw [if_pos c] at H
      refine Ev.step (fun k => by rw [tamisref06_Without.l1, if_pos (by rw [List.length_map]; omega), if_pos (by omega), er, if_pos (by omega), if_pos (by omega), if_pos (by omega), Int.toNat_natCast, ew]) ?_
      exact without_inner l h w i hi ts hts r d (m + 1) (b.set t true) (by omega) (by rw [List.length_set]; exact hb) H
    · rw [if_neg c] at H
      refine Ev.step (fun k => by rw [tamisref06_Without.l1, if_pos (by rw [List.length_map]; omega), if_pos (by omega), er, if_neg (by omega), ew]) ?_
      exact without_inner l h w i hi ts hts r d (m + 1) b (by omega) hb H
theorem without_loop (l : List S56) (h : Ok l) (w : Nat) : ∀ d i, i + d = l.length → Ev (fun k => tamisref06_Without.l0 k l (w : Int) (bareS l w i) (i : Int)) (bareS l w l.length)
  | 0, i, hi => by
    obtain rfl : i = l.length := by omega
    exact Ev.step (fun k => by rw [tamisref06_Without.l0, if_neg (by omega)]) (Ev.now _)
  | d + 1, i, hi => by
    have hl := h.len
    have ih := without_loop l h w d (i + 1) (by omega)
    obtain ⟨a0, a1, b0, b1, c0, c1, d0, d1⟩ := h.at_ i
    have hr : rdOf false (bareS l w i) (i : Int) = (bareS l w i).getD i false := by simp [rdOf]
    have ew : wrap64 ((i : Int) + 1) = ((i + 1 : Nat) : Int) := by rw [ws _ (by omega) (by omega)]; omega
    have wf3 : wrap64 (at_ l i).f3 = (at_ l i).f3 := ws _ (by omega) (by omega)
    refine Ev.step (fun k => by rw [tamisref06_Without.l0, if_pos (by omega), if_pos (by omega), rd_at]) ?_
    refine Ev.bind (ref_kind (at_ l i).f0) ?_
    refine Ev.congr (fun k => by rw [if_pos (by rw [bare_len]; omega), hr, wf3]) ?_
    rw [bareS] at ih
    have skip : ∀ f : Bool, f = true → ¬ ((bareS l w i).getD i false = true ∧ st l w i = false) → Ev (fun k => tamisref06_Without.j1 k l (w : Int) (bareS l w i) (i : Int) f) (bareS l w l.length) := by
      intro f hf c
      rw [if_neg c] at ih
      exact Ev.step (fun k => by rw [tamisref06_Without.j1, if_pos hf, ew]) ih
    have go : ∀ f : Bool, f = false → ((bareS l w i).getD i false = true ∧ st l w i = false) → Ev (fun k => tamisref06_Without.j1 k l (w : Int) (bareS l w i) (i : Int) f) (bareS l w l.length) := by
      intro f hf c
      rw [if_pos c] at ih
      refine Ev.step (fun k => by rw [tamisref06_Without.j1, if_neg (by rw [hf]; decide)]) ?_
      refine Ev.bind (next_ev l h i (by omega)) ?_
      have := without_inner l h w i (by omega) (tgt l i) (tgt_len l i) (bareS l w l.length) (tgt l i).length 0 (bareS l w i) (by omega) (bare_len l w i)
      rw [List.drop_zero] at this
      exact this ih
    by_cases cb : (bareS l w i).getD i false = true
    · refine Ev.congr (fun k => by rw [if_pos cb]) ?_
      by_cases k8 : kindOf (at_ l i).f0 = 8 ∨ kindOf (at_ l i).f0 = 9
      · have hst : st l w i = ((at_ l i).f3 == (w : Int)) := by unfold st; rw [decide_eq_true k8, Bool.true_and]; rfl
        have hE : Ev (fun k => tamisref06_Without.j1 k l (w : Int) (bareS l w i) (i : Int) ((at_ l i).f3 == (w : Int))) (bareS l w l.length) := by
          rw [← hst]
          by_cases cs : st l w i = true
          · exact skip _ cs (by rw [cs]; simp)
          · have cs' : st l w i = false := by simpa using cs
            exact go _ cs' ⟨cb, cs'⟩
        rcases k8 with k8 | k9
        · exact Ev.congr (fun k => by rw [if_pos k8]) hE
        · exact Ev.congr (fun k => by rw [if_neg (by omega), if_pos k9]) hE
      · have hst : st l w i = false := by unfold st; rw [decide_eq_false k8, Bool.false_and]
        refine Ev.congr (fun k => by rw [if_neg (by omega), if_neg (by omega)]) ?_
        exact go false rfl ⟨cb, hst⟩
    · refine Ev.congr (fun k => by rw [if_neg cb]) ?_
      exact skip true rfl (fun c => cb c.1)
def without (l : List S56) (w : Nat) : List Bool := if l.length = 0 then [] else bareS l w l.length
theorem without_ev (l : List S56) (h : Ok l) (w : Nat) : Ev (fun k => tamisref06_Without.f k l (w : Int)) (without l w) := by
  have hl := h.len
  have e0 : ((l.length : Int)).toNat = l.length := Int.toNat_natCast _
  unfold tamisref06_Without.f without
  rw [e0]
  by_cases c : l.length = 0
  · rw [if_pos c]
    refine Ev.congr (fun k => by rw [if_pos (by omega), if_pos (by omega), Option.bind_some, if_pos (by omega), c]; rfl) (Ev.now _)
  · rw [if_neg c]
    refine Ev.congr (fun k => by rw [if_pos (by omega), if_pos (by omega), Option.bind_some, if_neg (by omega), if_pos (by rw [List.length_replicate]; omega)]) ?_
    exact without_loop l h w l.length 0 (by omega)

end Go.Proofs.Ytmjpibeiglicdaa.Ver
