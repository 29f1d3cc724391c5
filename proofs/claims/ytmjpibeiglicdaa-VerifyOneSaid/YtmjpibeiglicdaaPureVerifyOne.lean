/- VerifyOne: one instruction that returns is a filter, whatever its number; one that doesn't never is; none of nothing; for every instruction. -/
import Derived.Test.YtmjpibeiglicdaaVerC
import Derived.Test.YtmjpibeiglicdaaX12
import Derived.Test.YtmjpibeiglicdaaArgs
namespace Go.Proofs.Ytmjpibeiglicdaa.Pure
open Go.RowKit Go.Proofs.Ytmjpibeiglicdaa.X Go.Proofs.Ytmjpibeiglicdaa.Ver Go.Proofs.YtmjpibeiglicdaaW.PrintWords Go.Proofs.YtmjpibeiglicdaaW.PrintLast Go.Proofs.YtmjpibeiglicdaaW.PrintMore
open Go.Proofs.Ytmjpibeiglicdaa.Code (kindOf codes)

theorem one_check (x : S56) : (check [x]).2 = 0 ↔ kindOf x.f0 = 13 ∨ kindOf x.f0 = 14 := by
  have hat : at_ [x] 0 = x := rfl
  have hw : whole [x] = bad [x] 1 0 := rfl
  have hb : bad [x] 1 0 = if errAt [x] 0 = 0 then (0, 0) else (0, errAt [x] 0) := rfl
  have he : errAt [x] 0 = locE 1 0 x := rfl
  unfold check
  rw [show [x].length - 1 = 0 from rfl, hat]
  constructor
  · intro h
    by_cases q : kindOf x.f0 = 13 ∨ kindOf x.f0 = 14
    · exact q
    · rw [if_neg q] at h
      by_cases c : (whole [x]).2 = 0
      · rw [if_pos c] at h; cases h
      · rw [if_neg c] at h; exact absurd h c
  · intro q
    have e0 : locE 1 0 x = 0 := by
      unfold locE
      rw [if_neg (by omega), if_neg (by omega), if_neg (by omega), if_neg (by omega), if_neg (by omega), if_neg (by omega)]
    have : whole [x] = (0, 0) := by rw [hw, hb, he, if_pos e0]
    rw [this, if_pos rfl, if_pos q]
    show (scan [x] _ 1 0).2 = 0
    rw [scan, hat, if_neg (by omega)]; rfl

theorem VerifyOne (f0 f1 f2 f3 : Int) (hw : Wf56 ⟨f0, f1, f2, f3⟩) : ∃ k, tamislaw06_VerifyOne.f k f0 f1 f2 f3 = some true := by
  have hf : Fit ⟨f0, f1, f2, f3⟩ := by
    obtain ⟨h0, h1, h2, h3⟩ := hw
    have a := u16_of h0
    have b := u8_of h1
    have c := u8_of h2
    have d := u32_of h3
    exact ⟨a.1, a.2, b.1, b.2, c.1, c.2, d.1, d.2⟩
  have h : Ok [(⟨f0, f1, f2, f3⟩ : S56)] := ⟨by simp, fun x hx => by rw [List.mem_singleton.1 hx]; exact hf⟩
  have hn : Ok ([] : List S56) := ⟨by simp, fun x hx => by cases hx⟩
  have hc := one_check ⟨f0, f1, f2, f3⟩
  apply Ev.rounds
  unfold tamislaw06_VerifyOne.f tamislaw06_awake.f
  refine Ev.bind (ref_kind f0) ?_
  refine Ev.congr (fun k => by rw [Option.bind_some, if_pos rfl]) ?_
  refine Ev.bind (right_ev _ h) ?_
  have rest : Ev (fun k => (verify_Right.f k ([] : List (S56))).bind fun t326 => (if t326 = true then (some false) else ((verify_Written.f k ([] : List (S56))).bind fun t327 => (some ((t327.length : Int) == 0))))) true := by
    refine Ev.bind (right_ev _ hn) ?_
    refine Ev.congr (fun k => by rw [if_neg (by decide)]) ?_
    exact Ev.bind (written_ev _ hn) (Ev.now _)
  by_cases k13 : kindOf f0 = 13
  · refine Ev.congr (fun k => by rw [if_pos k13, if_pos (by rw [hc.2 (.inl k13)]; rfl)]) ?_
    exact rest
  · refine Ev.congr (fun k => by rw [if_neg k13]) ?_
    have e : (((check [(⟨f0, f1, f2, f3⟩ : S56)]).2 == 0) == (kindOf f0 == 14)) = true := by
      by_cases k14 : kindOf f0 = 14
      · rw [hc.2 (.inr k14), k14]; rfl
      · have : ¬ (check [(⟨f0, f1, f2, f3⟩ : S56)]).2 = 0 := fun z => by rcases hc.1 z with z | z <;> simp_all
        rw [beq_eq_false_iff_ne.2 this, beq_eq_false_iff_ne.2 k14]; rfl
    refine Ev.congr (fun k => by rw [if_pos e]) ?_
    exact rest

end Go.Proofs.Ytmjpibeiglicdaa.Pure
