/- VerifyLong: of instructions that load, and one that returns behind them, there may be 4096 in all, and not one more; a jump goes as far as the last one, and not one further; for every number and every jump. -/
import Derived.Test.YtmjpibeiglicdaaVerC
import Derived.Test.YtmjpibeiglicdaaX13
namespace Go.Proofs.Ytmjpibeiglicdaa.Pure
open Go.RowKit Go.Proofs.Ytmjpibeiglicdaa.X Go.Proofs.Ytmjpibeiglicdaa.Ver Go.Proofs.YtmjpibeiglicdaaW.PrintWords Go.Proofs.YtmjpibeiglicdaaW.PrintLast Go.Proofs.YtmjpibeiglicdaaW.PrintMore
open Go.Proofs.Ytmjpibeiglicdaa.Code (kindOf codes)

def L (far : Int) (m : Nat) : List S56 := (List.range m).map fun j : Nat => if j = 0 then ⟨5, 0, 0, far⟩ else ⟨0, 0, 0, (j : Int)⟩
def P (far : Int) (n : Nat) : List S56 := L far (n - 1) ++ [⟨6, 0, 0, 0⟩]
theorem L_len (far : Int) (m : Nat) : (L far m).length = m := by simp [L]
theorem P_len (far : Int) (n : Nat) (hn : 0 < n) : (P far n).length = n := by unfold P; rw [List.length_append, L_len, List.length_singleton]; omega
theorem L_one (far : Int) : ([(⟨5, 0, 0, far⟩ : S56)] : List S56) = L far 1 := rfl
theorem L_succ (far : Int) (m : Nat) (hm : 0 < m) : L far m ++ [(⟨0, 0, 0, (m : Int)⟩ : S56)] = L far (m + 1) := by
  unfold L
  rw [List.range_succ, List.map_append, List.map_singleton, if_neg (by omega)]
theorem P_at (far : Int) (n i : Nat) (hn : 1 < n) (hi : i < n) : at_ (P far n) i = if i = n - 1 then ⟨6, 0, 0, 0⟩ else if i = 0 then ⟨5, 0, 0, far⟩ else ⟨0, 0, 0, (i : Int)⟩ := by
  unfold at_ P
  rw [List.getD_eq_getElem?_getD]
  by_cases e : i = n - 1
  · rw [if_pos e, List.getElem?_append_right (by rw [L_len]; omega), L_len, e, Nat.sub_self]; rfl
  · rw [if_neg e, List.getElem?_append_left (by rw [L_len]; omega)]
    unfold L
    rw [List.getElem?_map, List.getElem?_range (by omega)]; rfl
theorem P_ok (far : Int) (n : Nat) (hn : 1 < n) (hm : n ≤ 5000) (h0 : 0 ≤ far) (h1 : far < 4294967296) : Ok (P far n) := by
  refine ⟨by rw [P_len far n (by omega)]; omega, fun x hx => ?_⟩
  obtain ⟨i, hi, rfl⟩ := List.getElem_of_mem hx
  have hl : i < n := by rw [P_len far n (by omega)] at hi; exact hi
  have e := P_at far n i hn hl
  have e2 : at_ (P far n) i = (P far n)[i] := by unfold at_; rw [List.getD_eq_getElem?_getD, List.getElem?_eq_getElem hi]; rfl
  rw [← e2, e]
  unfold Fit
  split
  · decide
  · split
    · simp; omega
    · simp; omega
theorem k5 : kindOf 5 = 11 := by decide +kernel
theorem k0 : kindOf 0 = 3 := by decide +kernel
theorem k6 : kindOf 6 = 13 := by decide +kernel
theorem P_err (far : Int) (n i : Nat) (hn : 1 < n) (hi : i < n) : errAt (P far n) i = if i = 0 ∧ 1 + far ≥ n then 7 else 0 := by
  unfold errAt
  rw [P_at far n i hn hi, P_len far n (by omega)]
  by_cases e : i = n - 1
  · rw [if_pos e, if_neg (by omega)]
    unfold locE
    rw [k6]
    simp
  · rw [if_neg e]
    by_cases z : i = 0
    · subst z
      rw [if_pos rfl]
      unfold locE
      rw [k5]
      by_cases c : 1 + far ≥ n
      · have e7 : (if (0 : Nat) = 0 ∧ 1 + far ≥ n then (7 : Int) else 0) = 7 := if_pos ⟨rfl, c⟩
        rw [e7]; simp; omega
      · have e7 : (if (0 : Nat) = 0 ∧ 1 + far ≥ n then (7 : Int) else 0) = 0 := if_neg (fun h => c h.2)
        rw [e7]; simp; omega
    · rw [if_neg z, if_neg (by omega)]
      unfold locE
      rw [k0]
      simp
theorem scan_none (l : List S56) (A : List Int) : ∀ d i, (∀ j, i ≤ j → j < i + d → ¬ (kindOf (at_ l j).f0 = 4 ∨ kindOf (at_ l j).f0 = 6)) → scan l A d i = (0, 0)
  | 0, _, _ => rfl
  | d + 1, i, h => by
    rw [scan, if_neg (fun c => h i (Nat.le_refl _) (by omega) c.1)]
    exact scan_none l A d (i + 1) fun j h1 h2 => h j (by omega) (by omega)
theorem P_check (far : Int) (n : Nat) (hn : 1 < n) : check (P far n) = if n > 4096 then (0, 5) else if 1 + far ≥ n then (0, 7) else (0, 0) := by
  unfold check
  by_cases c : n > 4096
  · have : whole (P far n) = (0, 5) := by unfold whole; rw [P_len far n (by omega), if_neg (by omega), if_pos c]
    rw [this, if_pos c]; rfl
  · rw [if_neg c]
    have e : whole (P far n) = bad (P far n) n 0 := by unfold whole; rw [P_len far n (by omega), if_neg (by omega), if_neg c]
    by_cases z : 1 + far ≥ n
    · have : bad (P far n) n 0 = (0, 7) := by
        obtain ⟨m, rfl⟩ : ∃ m, n = m + 1 := ⟨n - 1, by omega⟩
        have e7 : errAt (P far (m + 1)) 0 = 7 := by rw [P_err far (m + 1) 0 hn (by omega)]; exact if_pos ⟨rfl, z⟩
        rw [bad, e7, if_neg (by decide)]; rfl
      rw [e, this, if_pos z]; rfl
    · have hz : (whole (P far n)).2 = 0 := by
        rw [e]
        refine (bad_zero _ _ _).2 fun j _ hj => ?_
        rw [P_err far n j hn (by omega), if_neg (by omega)]
      rw [if_pos hz, if_neg z, P_len far n (by omega), P_at far n (n - 1) hn (by omega), if_pos rfl, if_pos (.inl k6)]
      refine scan_none _ _ _ _ fun j _ hj => ?_
      rw [P_at far n j hn (by omega)]
      split
      · rw [k6]; decide
      · split
        · rw [k5]; decide
        · rw [k0]; decide

theorem long_loop (a0 far : Int) (n : Nat) (hn : 4090 ≤ n) (hm : n ≤ 4101) (h0 : 0 ≤ far) (h1 : far < 4294967296) : ∀ d m, 0 < m → m + d = n - 1 → Ev (fun k => tamislaw06_VerifyLong.l0 k (n : Int) far (L far m)) true
  | 0, m, hp, hi => by
    obtain rfl : m = n - 1 := by omega
    have hok := P_ok far n (by omega) (by omega) h0 h1
    have hc := P_check far n (by omega)
    have ew : wrap64 ((n : Int) - 1) = (n : Int) - 1 := ws _ (by omega) (by omega)
    have er : tamislaw06_ret.f = some (6, 0, 0, 0) := rfl
    refine Ev.step (fun k => by rw [tamislaw06_VerifyLong.l0, ew, if_neg (by rw [L_len]; omega), er, Option.bind_some, if_pos (by rw [L_len]; omega), Option.bind_some]) ?_
    refine Ev.bind (check_ev (P far n) hok) ?_
    rw [hc]
    unfold tamislaw06_awake.f
    refine Ev.congr (fun k => by rw [Option.bind_some, if_pos rfl]) ?_
    have u1 : IntKind.u64.wrap (IntKind.u64.wrap far + 1) = far + 1 := by rw [wu far h0 (by omega), wu _ (by omega) (by omega)]
    have u2 : IntKind.u64.wrap (n : Int) = (n : Int) := wu _ (by omega) (by omega)
    have hr := right_ev (P far n) hok
    rw [hc] at hr
    by_cases c : n > 4096
    · rw [if_pos c] at hr ⊢
      refine Ev.step (fun k => by rw [tamislaw06_VerifyLong.j1, if_neg (by decide), if_pos (by omega), if_pos rfl]) ?_
      exact Ev.bind hr (Ev.now _)
    · rw [if_neg c] at hr ⊢
      by_cases z : 1 + far ≥ n
      · rw [if_pos z]
        exact Ev.step (fun k => by rw [tamislaw06_VerifyLong.j1, if_neg (by decide), if_neg (by omega), u1, u2, if_pos (by omega)]; rfl) (Ev.now _)
      · rw [if_neg z] at hr ⊢
        refine Ev.step (fun k => by rw [tamislaw06_VerifyLong.j1, if_neg (by decide), if_neg (by omega), u1, u2, if_neg (by omega), if_pos rfl]) ?_
        exact Ev.bind hr (Ev.now _)
  | d + 1, m, hp, hi => by
    have ih := long_loop a0 far n hn hm h0 h1 d (m + 1) (by omega) (by omega)
    have ew : wrap64 ((n : Int) - 1) = (n : Int) - 1 := ws _ (by omega) (by omega)
    have em : ((m : Int)) % 4294967296 = (m : Int) := by omega
    refine Ev.step (fun k => by rw [tamislaw06_VerifyLong.l0, ew, if_pos (by rw [L_len]; omega), if_pos (by rw [L_len]; omega), L_len, em, L_succ far m hp]) ?_
    exact ih

theorem long_pure : tamislaw06_VerifyLong.Pure := by
  intro a0 far w0 w1
  have b1 := u32_of w1
  apply Ev.rounds
  unfold tamislaw06_VerifyLong.f
  obtain ⟨u, hu⟩ : ∃ u, IntKind.u64.wrap a0 = u := ⟨_, rfl⟩
  have hu0 : 0 ≤ u ∧ u < 18446744073709551616 := by rw [← hu, IntKind.wrap_u64]; omega
  have ht : Int.tmod u 12 = u % 12 := Int.tmod_eq_emod_of_nonneg hu0.1
  obtain ⟨m, hm⟩ : ∃ m : Nat, u % 12 = m := ⟨(u % 12).toNat, by omega⟩
  have e : wrap64 (4090 + wrap64 (Int.tmod u 12)) = ((4090 + m : Nat) : Int) := by rw [ht, ws (u % 12) (by omega) (by omega), ws _ (by omega) (by omega)]; omega
  rw [hu, e, L_one]
  exact long_loop a0 far (4090 + m) (by omega) (by omega) b1.1 b1.2 (4090 + m - 2) 1 (by omega) (by omega)
theorem VerifyLong (a0 : Int) (w0 : (Lit.int .i64 a0).wf = true) (a1 : Int) (w1 : (Lit.int .u32 a1).wf = true) : ∃ k, tamislaw06_VerifyLong.f k a0 a1 = some true := long_pure a0 a1 w0 w1

end Go.Proofs.Ytmjpibeiglicdaa.Pure
