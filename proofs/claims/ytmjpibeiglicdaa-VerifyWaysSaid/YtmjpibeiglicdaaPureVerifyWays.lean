/- VerifyWays: on any way through a filter each step goes on within it, forward, and each scratch word that is read was written on that way; it ends by a return; for every program and all choices. -/
import Derived.Test.YtmjpibeiglicdaaVerE
import Derived.Test.YtmjpibeiglicdaaX11
import Derived.Test.YtmjpibeiglicdaaArgs
namespace Go.Proofs.Ytmjpibeiglicdaa.Pure
open Go.RowKit Go.Proofs.Ytmjpibeiglicdaa.X Go.Proofs.Ytmjpibeiglicdaa.Ver Go.Proofs.YtmjpibeiglicdaaW.PrintWords Go.Proofs.YtmjpibeiglicdaaW.PrintLast Go.Proofs.YtmjpibeiglicdaaW.PrintMore
open Go.Proofs.Ytmjpibeiglicdaa.Code (kindOf codes)

theorem fit_of {x : S56} (h : Wf56 x) : Fit x := by
  obtain ⟨h0, h1, h2, h3⟩ := h
  have a := u16_of h0
  have b := u8_of h1
  have c := u8_of h2
  have d := u32_of h3
  exact ⟨a.1, a.2, b.1, b.2, c.1, c.2, d.1, d.2⟩
theorem ok_of {l : List S56} (h : ∀ x ∈ l, Wf56 x) (hl : l.length ≤ 10000) : Ok l := ⟨hl, fun x hx => fit_of (h x hx)⟩

theorem ways_loop (l : List S56) (h : Ok l) (hl : l.length ≤ 300) (H : Filter l) (p : List Bool) (hp : p.length ≤ 300) : ∀ (d i s : Nat) (g : Nat → Bool), l.length ≤ i + d → i < l.length → s ≤ i →
    (∀ w, w < 16 → g w = false → (bareS l w l.length).getD i false = true) → Ev (fun k => tamislaw06_VerifyWays.l0 k l p (i : Int) (num g) (s : Int)) true
  | 0, i, s, g, hd, hi, hs, hg => absurd hi (by omega)
  | d + 1, i, s, g, hd, hi, hs, hg => by
    obtain ⟨a0, a1, b0, b1, c0, c1, d0, d1⟩ := h.at_ i
    refine Ev.step (fun k => by rw [tamislaw06_VerifyWays.l0, if_neg (by omega), if_neg (by omega), decide_eq_false (show ¬ (s : Int) ≥ (l.length : Int) by omega)]) ?_
    refine Ev.step (fun k => by rw [tamislaw06_VerifyWays.j2, if_neg (by decide), if_pos (by omega), if_pos (by omega), rd_at]) ?_
    refine Ev.bind (ref_kind (at_ l i).f0) ?_
    by_cases k13 : kindOf (at_ l i).f0 = 13
    · refine Ev.congr (fun k => by rw [if_pos k13]) ?_
      exact Ev.step (fun k => by rw [tamislaw06_VerifyWays.j3, if_pos rfl]) (Ev.now _)
    refine Ev.congr (fun k => by rw [if_neg k13]) ?_
    by_cases k14 : kindOf (at_ l i).f0 = 14
    · exact Ev.step (fun k => by rw [tamislaw06_VerifyWays.j3, if_pos (beq_iff_eq.2 k14)]) (Ev.now _)
    obtain ⟨tp, tt⟩ := tgt_in h H hi (by omega)
    have tl := tgt_len l i
    have go : ∀ g' : Nat → Bool, (∀ w, w < 16 → g' w = false → g w = false ∧ st l w i = false) → Ev (fun k => tamislaw06_VerifyWays.j6 k l p (i : Int) (num g') (s : Int)) true := by
      intro g' hg'
      have nx : ∀ m : Nat, m < (tgt l i).length → Ev (fun k => tamislaw06_VerifyWays.l0 k l p (rd ((tgt l i).map fun t : Nat => (t : Int)) (m : Int)) (num g') (wrap64 ((s : Int) + 1))) true ∧ ¬ rd ((tgt l i).map fun t : Nat => (t : Int)) (m : Int) ≤ (i : Int) := by
        intro m hm
        have er : rd ((tgt l i).map fun t : Nat => (t : Int)) (m : Int) = (((tgt l i)[m] : Nat) : Int) := by simp [rd, hm]
        have ⟨t1, t2⟩ := tt _ (List.getElem_mem hm)
        rw [er, ws ((s : Int) + 1) (by omega) (by omega), show (s : Int) + 1 = ((s + 1 : Nat) : Int) by omega]
        exact ⟨ways_loop l h hl H p hp d _ (s + 1) g' (by omega) t2 (by omega) (fun w hw hgw => bare_next l w i _ hi t2 (List.getElem_mem hm) (hg' w hw hgw).2 (hg w hw (hg' w hw hgw).1)), by omega⟩
      have fin : ∀ b : Bool, Ev (fun k => tamislaw06_VerifyWays.j7 k l p (i : Int) (num g') (s : Int) ((tgt l i).map fun t : Nat => (t : Int)) 0 b) true := by
        intro b
        cases b with
        | true =>
          have ew : wrap64 ((((tgt l i).map fun t : Nat => (t : Int)).length : Int) - 1) = (((tgt l i).length - 1 : Nat) : Int) := by rw [List.length_map, ws _ (by omega) (by omega)]; omega
          obtain ⟨n1, n2⟩ := nx ((tgt l i).length - 1) (by omega)
          exact Ev.step (fun k => by rw [tamislaw06_VerifyWays.j7, if_pos rfl, ew, if_pos (by omega), if_pos (by rw [List.length_map]; omega), if_neg n2]) n1
        | false =>
          obtain ⟨n1, n2⟩ := nx 0 tp
          have n2' : ¬ rd ((tgt l i).map fun t : Nat => (t : Int)) 0 ≤ (i : Int) := n2
          refine Ev.step (fun k => by rw [tamislaw06_VerifyWays.j7, if_neg (by decide), if_pos (by omega), if_pos (by rw [List.length_map]; omega), if_neg n2']) ?_
          exact n1
      refine Ev.step (fun k => by rw [tamislaw06_VerifyWays.j6]) ?_
      refine Ev.bind (next_ev l h i hi) ?_
      by_cases c : (s : Int) < (p.length : Int)
      · exact Ev.congr (fun k => by rw [if_pos c, if_pos (by omega)]) (fin _)
      · exact Ev.congr (fun k => by rw [if_neg c]) (fin false)
    have j4 : Ev (fun k => tamislaw06_VerifyWays.j4 k l p (i : Int) (num g) (s : Int) (kindOf (at_ l i).f0) false (at_ l i).f0 (at_ l i).f1 (at_ l i).f2 (at_ l i).f3) true := by
      refine Ev.step (fun k => by rw [tamislaw06_VerifyWays.j4, if_neg (by decide)]) ?_
      have stores : (kindOf (at_ l i).f0 = 8 ∨ kindOf (at_ l i).f0 = 9) → Ev (fun k => tamislaw06_VerifyWays.j5 k l p (i : Int) (num g) (s : Int) true (at_ l i).f0 (at_ l i).f1 (at_ l i).f2 (at_ l i).f3) true := by
        intro hk
        have hK := fine_word H.fine hi (by omega)
        have eo : Go.bits .or .i64 (num g) (shl .i64 1 (at_ l i).f3) = num fun w => g w || decide (w = (at_ l i).f3.toNat) := by
          obtain ⟨q, hq⟩ : ∃ q : Nat, (at_ l i).f3 = (q : Int) := ⟨(at_ l i).f3.toNat, by omega⟩
          rw [hq] at hK ⊢
          rw [num_one64 q (by omega), num_or64, Int.toNat_natCast]
        refine Ev.step (fun k => by rw [tamislaw06_VerifyWays.j5, if_pos rfl, if_pos d0, eo]) ?_
        refine go _ fun w hw hh => ?_
        simp only [Bool.or_eq_false_iff, decide_eq_false_iff_not] at hh
        refine ⟨hh.1, ?_⟩
        unfold st
        rw [decide_eq_false (show ¬ (at_ l i).f3 = (w : Int) by omega), Bool.and_false]
      by_cases k8 : kindOf (at_ l i).f0 = 8
      · exact Ev.congr (fun k => by rw [if_pos k8]) (stores (.inl k8))
      · refine Ev.congr (fun k => by rw [if_neg k8]) ?_
        by_cases k9 : kindOf (at_ l i).f0 = 9
        · exact Ev.congr (fun k => by rw [show (kindOf (at_ l i).f0 == 9) = true from beq_iff_eq.2 k9]) (stores (.inr k9))
        · refine Ev.congr (fun k => by rw [show (kindOf (at_ l i).f0 == 9) = false from beq_eq_false_iff_ne.2 k9]) ?_
          refine Ev.step (fun k => by rw [tamislaw06_VerifyWays.j5, if_neg (by decide)]) ?_
          exact go g fun w hw hh => ⟨hh, st_kind (by omega)⟩
    refine Ev.step (fun k => by rw [tamislaw06_VerifyWays.j3, if_neg (by simpa using k14)]) ?_
    have rdf : kindOf (at_ l i).f0 = 4 ∨ kindOf (at_ l i).f0 = 6 → (Go.bits .and .i64 (shr .i64 (num g) (at_ l i).f3) 1 == 0) = false := by
      intro hk
      have hK := fine_word H.fine hi (by omega)
      have hr := H.reads i hi hk
      obtain ⟨q, hq⟩ : ∃ q : Nat, (at_ l i).f3 = (q : Int) := ⟨(at_ l i).f3.toNat, by omega⟩
      rw [hq] at hK hr ⊢
      rw [Int.toNat_natCast] at hr
      rw [beq_eq_false_iff_ne]
      intro e
      have e2 := hg q (by omega) ((num_read64 g q (by omega)).1 e)
      rw [hr] at e2; cases e2
    by_cases k4 : kindOf (at_ l i).f0 = 4
    · exact Ev.congr (fun k => by rw [if_pos k4, if_pos d0, rdf (.inl k4)]) j4
    · refine Ev.congr (fun k => by rw [if_neg k4]) ?_
      by_cases k6 : kindOf (at_ l i).f0 = 6
      · exact Ev.congr (fun k => by rw [if_pos k6, if_pos d0, rdf (.inr k6)]) j4
      · exact Ev.congr (fun k => by rw [if_neg k6]) j4

theorem VerifyWays (l : List S56) (hw : ∀ x ∈ l, Wf56 x) (p : List Bool) (_ : True) : ∃ k, tamislaw06_VerifyWays.f k l p = some true := by
  apply Ev.rounds
  unfold tamislaw06_VerifyWays.f tamislaw06_awake.f
  refine Ev.congr (fun k => by rw [Option.bind_some, if_pos rfl]) ?_
  have out : Ev (fun k => tamislaw06_VerifyWays.j0 k l p true) true :=
    Ev.step (fun k => by rw [tamislaw06_VerifyWays.j0, if_pos rfl, tamislaw06_awake.f, Option.bind_some]) (Ev.now _)
  by_cases c : (l.length : Int) > 300
  · exact Ev.congr (fun k => by rw [if_pos c]) out
  · by_cases c2 : (p.length : Int) > 300
    · exact Ev.congr (fun k => by rw [if_neg c, if_pos c2]) out
    · have h : Ok l := ok_of hw (by omega)
      refine Ev.congr (fun k => by rw [if_neg c, if_neg c2]) ?_
      refine Ev.bind (right_ev l h) ?_
      by_cases z : (check l).2 = 0
      · have H := (check_iff h).1 z
        refine Ev.congr (fun k => by rw [z]) ?_
        refine Ev.step (fun k => by rw [tamislaw06_VerifyWays.j0, if_neg (by decide)]) ?_
        have := ways_loop l h (by omega) H p (by omega) l.length 0 0 (fun _ => false) (by omega) H.pos (Nat.le_refl _) (fun w _ _ => bare_first l w H.pos)
        rw [← num_none] at this
        exact this
      · exact Ev.congr (fun k => by rw [show ((check l).2 == 0) = false from beq_eq_false_iff_ne.2 z]; rfl) out

end Go.Proofs.Ytmjpibeiglicdaa.Pure
