/- tree.Build: rows, and the whole tree. -/
import Derived.Test.YtmjpibeiglicdaaTreeC
namespace Go.Proofs.Ytmjpibeiglicdaa.TreeB
open Go.RowKit Go.Proofs.Ytmjpibeiglicdaa.T Go.Proofs.YtmjpibeiglicdaaV.PrintWords Go.Proofs.YtmjpibeiglicdaaV.PrintLast Go.Proofs.YtmjpibeiglicdaaV.PrintMore
set_option linter.unusedVariables false
set_option linter.unusedSimpArgs false

/-- What rows come to (d: how deep at most). -/
def rowsF : Nat → List S113 → Int → Int → List S40 × Int
  | 0, _, other, next => ([⟨2, 0, 0, other, 0⟩], next)
  | d + 1, l, other, next =>
    if l.length = 0 then ([⟨2, 0, 0, other, 0⟩], next)
    else if l.length = 1 then leafF (l.getD 0 z113) other next
    else
      let a := rowsF d (l.take (l.length / 2)) other (next + 2)
      let b := rowsF d (l.drop (l.length / 2)) other a.2
      ([⟨3, 53, (l.getD (l.length / 2) z113).f0, next, next + 1⟩, ⟨4, 0, 0, next + 1, 0⟩] ++ a.1 ++ [⟨4, 0, 0, next, 0⟩] ++ b.1, b.2)
theorem Bld.bel {w0 w : World} {B : Nat} {items : List S40} {other next : Int} (h : Bld w0 w B items other next) : Below w0.heap.size w0 w := by
  obtain ⟨v, _, _, _, hBel⟩ := h
  exact hBel
theorem leaf_len (x : S113) (other next : Int) : (leafF x other next).1.length ≤ 3 ∧ next ≤ (leafF x other next).2 ∧ (leafF x other next).2 ≤ next + 1 := by
  unfold leafF
  repeat' split
  all_goals (refine ⟨by simp, ?_, ?_⟩ <;> omega)
theorem rows_len : ∀ (d : Nat) (l : List S113) (other next : Int), 0 < l.length → l.length ≤ d → (rowsF d l other next).1.length + 3 ≤ 6 * l.length ∧ next ≤ (rowsF d l other next).2 ∧ (rowsF d l other next).2 + 2 ≤ next + 3 * l.length
  | 0, l, other, next, h0, h1 => by omega
  | d + 1, l, other, next, h0, h1 => by
    rw [rowsF, if_neg (by omega)]
    by_cases c : l.length = 1
    · rw [if_pos c]
      obtain ⟨a, b, c'⟩ := leaf_len (l.getD 0 z113) other next
      omega
    · rw [if_neg c]
      have e1 : (l.take (l.length / 2)).length = l.length / 2 := by rw [List.length_take]; omega
      have e2 : (l.drop (l.length / 2)).length = l.length - l.length / 2 := List.length_drop
      obtain ⟨a1, a2, a3⟩ := rows_len d (l.take (l.length / 2)) other (next + 2) (by omega) (by omega)
      obtain ⟨b1, b2, b3⟩ := rows_len d (l.drop (l.length / 2)) other (rowsF d (l.take (l.length / 2)) other (next + 2)).2 (by omega) (by omega)
      refine ⟨?_, ?_, ?_⟩
      · simp only [List.length_append, List.length_cons, List.length_nil]; omega
      · show next ≤ (rowsF d (l.drop (l.length / 2)) other (rowsF d (l.take (l.length / 2)) other (next + 2)).2).2; omega
      · show (rowsF d (l.drop (l.length / 2)) other (rowsF d (l.take (l.length / 2)) other (next + 2)).2).2 + 2 ≤ next + 3 * l.length; omega

set_option maxHeartbeats 4000000 in
set_option maxRecDepth 100000 in
theorem rows_nil (w0 w : World) (B : Nat) (items : List S40) (other next : Int) (A : Option Addr) (c : Nat) (l : List S113) (h : Bld w0 w B items other next) (hl : items.length + 1 ≤ 1000000) (hn : l.length = 0) :
    Calls Try.prog 73 #[.pointer (some ⟨B, 0, none⟩), .slice A l.length c] w fun e w' => e = .returned (.tuple #[]) ∧ Bld w0 w' B (items ++ [⟨2, 0, 0, other, 0⟩]) other next ∧ Keep w w' := by
  have hA := Aside0.mk h
  have k1 : w.cell? ⟨B, 1, none⟩ = some (.int .i64 other) := Bld.cell1 h
  have t0 : ((l.length : Int) == 0) = true := beq_iff_eq.2 (by omega)
  clear h hn
  go_enter Try.func73, Try.ntmps73
  go_wp2_with (go_at_call 98; (with_reducible refine (jump_calls w0 _ B items other next other hA.out hl).mono ?_); rintro e w1 ⟨rfl, hb1, hk1⟩)
  go_end0
  exact ⟨rfl, hb1, hk1⟩

set_option maxHeartbeats 4000000 in
set_option maxRecDepth 100000 in
theorem rows_one (w0 w : World) (B : Nat) (items : List S40) (other next : Int) (A : Option Addr) (c : Nat) (l : List S113) (h : Bld w0 w B items other next) (hr : Kd.C k113 w A l.length l) (hl : items.length + 3 ≤ 1000000) (h0 : 0 ≤ next) (h1 : next < 4611686018427387904) (hn : l.length = 1) :
    Calls Try.prog 73 #[.pointer (some ⟨B, 0, none⟩), .slice A l.length c] w fun e w' => e = .returned (.tuple #[]) ∧ Bld w0 w' B (items ++ (leafF (l.getD 0 z113) other next).1) other (leafF (l.getD 0 z113) other next).2 ∧ Keep w w' := by
  have hA := Aside0.mk h
  have hu113 := Try.underlying113
  obtain ⟨ad, rfl, c0, c1, c2⟩ := at_T113 hr 0 (by omega) (by omega)
  have ex : rd_T113 l 0 = l.getD 0 z113 := rfl
  have e0 : ad.add (Int.toNat 0 * 3) = ad := by first | (simp [Addr.add]; done) | (cases ad; simp [Addr.add]; done) | go_simp
  rw [e0] at c0 c1 c2
  rw [ex] at c0 c1 c2
  obtain ⟨x, hx⟩ : ∃ x, l.getD 0 z113 = x := ⟨_, rfl⟩
  rw [hx] at c0 c1 c2 ⊢
  have t0 : ((l.length : Int) == 0) = false := beq_eq_false_iff_ne.2 (by omega)
  have t1 : ((l.length : Int) == 1) = true := beq_iff_eq.2 (by omega)
  have t4 : 0 < l.length := by omega
  clear h hn hr hx ex e0
  go_enter Try.func73, Try.ntmps73
  go_wp2_with (go_at_call 99; (with_reducible refine (leaf_calls w0 _ B items other next x hA.out hl h0 h1).mono ?_); rintro e w1 ⟨rfl, hb1, hk1⟩)
  go_end0
  exact ⟨rfl, hb1, hk1⟩

theorem q_room {items : List S40} {a b c : S40} {R : List S40} {m n' L : Nat} (hl : items.length + 6 * L + 3 ≤ 1000000) (hm : m = L / 2) (hn : 2 ≤ L) (hr : R.length + 3 ≤ 6 * m) (hn' : n' = L - m) :
    items.length + 1 ≤ 1000000 ∧ (items ++ [a]).length + 1 ≤ 1000000 ∧ (items ++ [a] ++ [b]).length + 6 * m + 3 ≤ 1000000 ∧
    (items ++ [a] ++ [b] ++ R).length + 1 ≤ 1000000 ∧ (items ++ [a] ++ [b] ++ R ++ [c]).length + 6 * n' + 3 ≤ 1000000 := by
  have e1 : (items ++ [a]).length = items.length + 1 := List.length_append
  have e2 : (items ++ [a] ++ [b]).length = (items ++ [a]).length + 1 := List.length_append
  have e3 : (items ++ [a] ++ [b] ++ R).length = (items ++ [a] ++ [b]).length + R.length := List.length_append
  have e4 : (items ++ [a] ++ [b] ++ R ++ [c]).length = (items ++ [a] ++ [b] ++ R).length + 1 := List.length_append
  refine ⟨?_, ?_, ?_, ?_, ?_⟩ <;> omega
set_option maxHeartbeats 4000000 in
set_option maxRecDepth 100000 in
theorem rows_many (w0 w : World) (B : Nat) (items : List S40) (other next : Int) (A : Option Addr) (c : Nat) (l : List S113) (h : Bld w0 w B items other next) (hr : Kd.C k113 w0 A l.length l) (hc : l.length ≤ c)
    (hl : items.length + 6 * l.length + 3 ≤ 1000000) (h0 : 0 ≤ next) (h1 : next + 3 * l.length < 4611686018427387904) (hn : 2 ≤ l.length) (hnl : l.length ≤ 4096) (m : Nat) (hm : m = l.length / 2) (ra rb : List S40 × Int)
    (hra : ra.1.length + 3 ≤ 6 * m ∧ next + 2 ≤ ra.2 ∧ ra.2 + 2 ≤ next + 2 + 3 * m)
    (ih1 : ∀ (w : World) (items : List S40), Bld w0 w B items other (next + 2) → items.length + 6 * m + 3 ≤ 1000000 →
      Calls Try.prog 73 #[.pointer (some ⟨B, 0, none⟩), .slice A (l.take m).length c] w fun e w' => e = .returned (.tuple #[]) ∧ Bld w0 w' B (items ++ ra.1) other ra.2 ∧ Keep w w')
    (ih2 : ∀ (w : World) (items : List S40) (A' : Option Addr) (c' : Nat), Bld w0 w B items other ra.2 → Kd.C k113 w0 A' (l.drop m).length (l.drop m) → (l.drop m).length ≤ c' → items.length + 6 * (l.length - m) + 3 ≤ 1000000 →
      Calls Try.prog 73 #[.pointer (some ⟨B, 0, none⟩), .slice A' (l.drop m).length c'] w fun e w' => e = .returned (.tuple #[]) ∧ Bld w0 w' B (items ++ rb.1) other rb.2 ∧ Keep w w') :
    Calls Try.prog 73 #[.pointer (some ⟨B, 0, none⟩), .slice A l.length c] w fun e w' => e = .returned (.tuple #[]) ∧ Bld w0 w' B (items ++ ([⟨3, 53, (l.getD m z113).f0, next, next + 1⟩, ⟨4, 0, 0, next + 1, 0⟩] ++ ra.1 ++ [⟨4, 0, 0, next, 0⟩] ++ rb.1)) other rb.2 ∧ Keep w w' := by
  have H0 := Aside0.mk h
  have hu113 := Try.underlying113
  obtain ⟨i0, hi0, z1, hsz, z2⟩ := info_parts info113
  have hcutA := cut_to (P := Try.prog) 22 113 .i64 Try.underlying22 hi0 A l.length c (m : Int) (by omega) (by omega) hc
  have hcutB := cut_from (P := Try.prog) 22 113 .i64 Try.underlying22 hi0 3 hsz A l.length c (m : Int) (by omega) (by omega)
  have hd := Kd.C_drop (m := m) (c := c) hr (by omega) hc
  have hal := at_T113 (Kd.C_below hr h.bel) (m : Int) (by omega) (by omega)
  have ex : rd_T113 l (m : Int) = l.getD m z113 := rfl
  rw [ex] at hal
  obtain ⟨x, hx⟩ : ∃ x, l.getD m z113 = x := ⟨_, rfl⟩
  rw [hx] at hal ⊢
  have e1 : (l.take m).length = m := by rw [List.length_take]; omega
  have e2 : (l.drop m).length = l.length - m := List.length_drop
  rw [e1] at ih1
  rw [e2] at ih2 hd
  rw [Int.toNat_natCast] at hcutA hcutB
  obtain ⟨A', hA'⟩ : ∃ A', A' = (if c = m then A else A.map (·.add (m * 3))) := ⟨_, rfl⟩
  obtain ⟨c', hc'⟩ : ∃ c', c' = c - m := ⟨_, rfl⟩
  obtain ⟨n', hn'⟩ : ∃ n', n' = l.length - m := ⟨_, rfl⟩
  rw [← hA', ← hn', ← hc'] at hcutB
  rw [show k113.sz = 3 from rfl, ← hA', ← hn'] at hd
  rw [← hn'] at ih2
  have hHalf : IntKind.i64.wrap ((l.length : Int) / 2) = (m : Int) := by rw [IntWalk.i64_in _ (by omega)]; omega
  have t0 : ((l.length : Int) == 0) = false := beq_eq_false_iff_ne.2 (by omega)
  have t1 : ((l.length : Int) == 1) = false := beq_eq_false_iff_ne.2 (by omega)
  have t4 : m < l.length := by omega
  have t5 : (0 : Int) ≤ (m : Int) := by omega
  have t6 : (m : Int) < (l.length : Int) := by omega
  have t7 : (m : Int) ≤ (l.length : Int) := by omega
  have HR := Aside0.mk hr
  have HD := Aside0.mk hd
  have HX := Aside0.mk hx
  have HM := Aside0.mk hm
  have q1 := Aside0.mk hl
  have q2 := Aside0.mk hra
  have HC' := Aside0.mk (show n' ≤ c' by omega)
  have hN := Aside0.mk hn'
  have N2 := Aside0.mk (show next + 1 + 1 = next + 2 by omega)
  obtain ⟨r3, r4, r5, r6, r7⟩ := q_room (items := items) (a := ⟨3, 53, x.f0, next, next + 1⟩) (b := ⟨4, 0, 0, next + 1, 0⟩) (c := ⟨4, 0, 0, next, 0⟩) (R := ra.1) hl hm hn hra.1 hn'
  have Q3 := Aside0.mk r3
  have Q4 := Aside0.mk r4
  have Q5 := Aside0.mk r5
  have Q6 := Aside0.mk r6
  have Q7 := Aside0.mk r7
  clear r3 r4 r5 r6 r7
  have IH1 := Aside0.mk ih1
  have IH2 := Aside0.mk ih2
  clear ih1 ih2
  clear h hr hd hx hal hm hl hra hc' hA' hn' ex e1 e2 z1 z2 hi0 hsz i0 hc hnl hn
  go_enter Try.func73, Try.ntmps73
  go_wp2_with (first
    | (go_at_call 100; (with_reducible refine (label_calls w0 _ B items other next H0.out h0 (by omega)).mono ?_); rintro e w1 ⟨rfl, hb1, hk1⟩; have H1 := Aside0.mk hb1; have K1 := Aside0.mk hk1; clear hb1 hk1 H0)
    | (go_at_call 100; (with_reducible refine (label_calls w0 _ B items other (next + 1) H1.out (by omega) (by omega)).mono ?_); rintro e w2 ⟨rfl, hb2, hk2⟩; have H2 := Aside0.mk hb2; have K2 := Aside0.mk (K1.out.trans hk2); obtain ⟨ad, rfl, c0, c1, c2⟩ := at_T113 (Kd.C_below HR.out hb2.bel) (m : Int) (by omega) (by omega); rw [show rd_T113 l (m : Int) = l.getD m z113 from rfl, HX.out, Int.toNat_natCast] at c0; clear hb2 hk2 H1 K1 c1 c2)
    | (go_at_call 101; (with_reducible refine (ask_calls w0 _ B items other (next + 1 + 1) 53 x.f0 next (next + 1) H2.out Q3.out).mono ?_); rintro e w3 ⟨rfl, hb3, hk3⟩; have H3 := Aside0.mk hb3; have K3 := Aside0.mk (K2.out.trans hk3); clear hb3 hk3 H2 K2 c0)
    | (go_at_call 102; (with_reducible refine (mark_calls w0 _ B _ other (next + 1 + 1) (next + 1) H3.out Q4.out).mono ?_); rintro e w4 ⟨rfl, hb4, hk4⟩; have H4 := Aside0.mk (N2.out ▸ hb4); have K4 := Aside0.mk (K3.out.trans hk4); clear hb4 hk4 H3 K3)
    | (go_at_call 73; (with_reducible refine (IH1.out _ _ H4.out Q5.out).mono ?_); rintro e w5 ⟨rfl, hb5, hk5⟩; have H5 := Aside0.mk hb5; have K5 := Aside0.mk (K4.out.trans hk5); clear hb5 hk5 H4 K4)
    | (go_at_call 102; (with_reducible refine (mark_calls w0 _ B _ other ra.2 next H5.out Q6.out).mono ?_); rintro e w6 ⟨rfl, hb6, hk6⟩; have H6 := Aside0.mk hb6; have K6 := Aside0.mk (K5.out.trans hk6); clear hb6 hk6 H5 K5)
    | (go_at_call 73; (with_reducible refine (IH2.out _ _ A' c' H6.out HD.out HC'.out Q7.out).mono ?_); rintro e w7 ⟨rfl, hb7, hk7⟩; have H7 := Aside0.mk hb7; have K7 := Aside0.mk (K6.out.trans hk7); clear hb7 hk7 H6 K6))
  go_end0
  refine ⟨rfl, ?_, K7.out⟩
  have hb := H7.out
  simp only [List.append_assoc] at hb ⊢
  exact hb
theorem rows_calls (w0 : World) (B : Nat) (other : Int) : ∀ (d : Nat) (l : List S113) (w : World) (items : List S40) (next : Int) (A : Option Addr) (c : Nat), l.length ≤ d → Bld w0 w B items other next → Kd.C k113 w0 A l.length l → l.length ≤ c →
    items.length + 6 * l.length + 3 ≤ 1000000 → 0 ≤ next → next + 3 * l.length < 4611686018427387904 → l.length ≤ 4096 →
    Calls Try.prog 73 #[.pointer (some ⟨B, 0, none⟩), .slice A l.length c] w fun e w' => e = .returned (.tuple #[]) ∧ Bld w0 w' B (items ++ (rowsF d l other next).1) other (rowsF d l other next).2 ∧ Keep w w'
  | 0, l, w, items, next, A, c, hd, h, hr, hc, hl, h0, h1, hm => rows_nil w0 w B items other next A c l h (by omega) (by omega)
  | d + 1, l, w, items, next, A, c, hd, h, hr, hc, hl, h0, h1, hm => by
    rw [rowsF]
    by_cases z : l.length = 0
    · rw [if_pos z]; exact rows_nil w0 w B items other next A c l h (by omega) z
    · rw [if_neg z]
      by_cases y : l.length = 1
      · rw [if_pos y]; exact rows_one w0 w B items other next A c l h (Kd.C_below hr h.bel) (by omega) h0 (by omega) y
      · rw [if_neg y]
        have e1 : (l.take (l.length / 2)).length = l.length / 2 := by rw [List.length_take]; omega
        have e2 : (l.drop (l.length / 2)).length = l.length - l.length / 2 := List.length_drop
        have hra := rows_len d (l.take (l.length / 2)) other (next + 2) (by omega) (by omega)
        rw [e1] at hra
        refine rows_many w0 w B items other next A c l h hr hc hl h0 h1 (by omega) hm (l.length / 2) rfl (rowsF d (l.take (l.length / 2)) other (next + 2)) (rowsF d (l.drop (l.length / 2)) other (rowsF d (l.take (l.length / 2)) other (next + 2)).2) hra ?_ ?_
        · intro w items h hl
          exact rows_calls w0 B other d _ w items (next + 2) A c (by omega) h (Kd.C_take hr (by omega)) (by omega) (by rw [e1]; exact hl) (by omega) (by rw [e1]; omega) (by omega)
        · intro w items A' c' h hr' hc' hl
          exact rows_calls w0 B other d _ w items _ A' c' (by omega) h hr' hc' (by rw [e2]; exact hl) (by omega) (by rw [e2]; omega) (by omega)
end Go.Proofs.Ytmjpibeiglicdaa.TreeB
