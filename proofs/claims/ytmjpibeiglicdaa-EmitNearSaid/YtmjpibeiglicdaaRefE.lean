/- Plain laws of the document's items (chapter 23): where a label is marked, what is wrong with an item, with items. -/
import Derived.Test.YtmjpibeiglicdaaE4
import Derived.Test.YtmjpibeiglicdaaKind
namespace Go.Proofs.Ytmjpibeiglicdaa.RefE
open Go.RowKit Go.Proofs.Ytmjpibeiglicdaa.E Go.Proofs.YtmjpibeiglicdaaU.PrintWords Go.Proofs.YtmjpibeiglicdaaU.PrintLast Go.Proofs.YtmjpibeiglicdaaU.PrintMore
open Go.Proofs.Ytmjpibeiglicdaa.Code (kindOf codes)

theorem ws (n : Int) (h0 : -9223372036854775808 ≤ n) (h1 : n < 9223372036854775808) : wrap64 n = n := by unfold wrap64; omega
theorem wn (n : Nat) (h1 : n < 9223372036854775807) : wrap64 ((n : Int) + 1) = ((n + 1 : Nat) : Int) := by rw [ws _ (by omega) (by omega)]; omega

/-! ### Codes -/
theorem all_codes (p : Int → Bool) (h : (codes.all fun q => p q.1) = true) (c : Int) (hc : kindOf c ≠ 0) : p c = true := by
  unfold kindOf at hc
  cases hf : codes.find? (fun q => c == q.1) with
  | none => rw [hf] at hc; exact absurd rfl hc
  | some q =>
    have h1 : (c == q.1) = true := by simpa using List.find?_some hf
    have h2 := List.mem_of_find?_eq_some hf
    have h3 := List.all_eq_true.1 h q h2
    rw [beq_iff_eq] at h1
    rw [h1]; exact h3
theorem not_code (c : Int) (h : kindOf c = 0) : ∀ q ∈ codes, c ≠ q.1 := by
  intro q hq e
  have hz : (codes.all fun q => decide (kindOf q.1 ≠ 0)) = true := by decide +kernel
  have := List.all_eq_true.1 hz q hq
  rw [← e] at this
  simp [h] at this
theorem name_none (a : Int) (x3 : List ByteArray) (x4 : List Int) (hl : x4.length ≤ 1000) (h : ∀ c ∈ x4, c ≠ a) (d : Nat) : ∀ i : Nat, i ≤ x4.length → x4.length - i = d →
    Ev (fun k => tamisref04_Name.l0 k a x3 x4 (i : Int)) (⟨#[]⟩ : ByteArray) := by
  induction d with
  | zero =>
    intro i h1 h2
    exact Ev.step (fun k => by rw [tamisref04_Name.l0, if_neg (by omega)]) (Ev.now _)
  | succ d ih =>
    intro i h1 h2
    have hlt : i < x4.length := by omega
    have hne : ¬ rd x4 (i : Int) = a := by
      have e : rd x4 (i : Int) = x4[i] := by simp [rd, hlt]
      rw [e]
      exact h _ (List.getElem_mem hlt)
    have := ih (i + 1) (by omega) (by omega)
    refine Ev.step (fun k => by rw [tamisref04_Name.l0, if_pos (by omega), if_pos (by omega), if_neg hne, ws ((i : Int) + 1) (by omega) (by omega)]) ?_
    exact this
theorem ref_kind (c : Int) : Ev (fun k => tamisref04_Kind.f k c) (kindOf c) := by
  by_cases h : kindOf c = 0
  · rw [h]
    have hn := not_code c h
    have hall : ∀ a ∈ ([0, 1, 2, 3, 4, 5, 6, 7, 12, 20, 21, 22, 28, 29, 32, 36, 37, 44, 45, 52, 53, 60, 61, 68, 69, 76, 77, 84, 92, 96, 97, 100, 108, 116, 124, 128, 129, 132, 135, 164, 172] : List Int), a ≠ c := by
      intro a ha e
      have hc : (([0, 1, 2, 3, 4, 5, 6, 7, 12, 20, 21, 22, 28, 29, 32, 36, 37, 44, 45, 52, 53, 60, 61, 68, 69, 76, 77, 84, 92, 96, 97, 100, 108, 116, 124, 128, 129, 132, 135, 164, 172] : List Int).all fun a => decide (kindOf a ≠ 0)) = true := by decide +kernel
      have := List.all_eq_true.1 hc a ha
      rw [e] at this
      simp [h] at this
    unfold tamisref04_Kind.f tamisref04_Name.f tamisref04_All.f
    refine Ev.bind (a := (⟨#[]⟩ : ByteArray)) ?_ ?_
    · exact name_none c _ _ (by decide) hall _ 0 (by omega) rfl
    · have e0 : (⟨#[]⟩ : ByteArray).toList = ([] : List UInt8) := by decide +kernel
      exact Ev.congr (fun k => by rw [if_pos e0]) (Ev.now _)
  · have hp := all_codes (fun c => decide (tamisref04_Kind.f 60 c = some (kindOf c))) (by decide +kernel) c h
    have hp : tamisref04_Kind.f 60 c = some (kindOf c) := by simpa using hp
    exact Ev.of (fun k => tamisref04_Kind.mono c k) hp

/-! ### Where a label is marked -/
def at_ (l : List S38) (i : Nat) : S38 := l.getD i z38
theorem rd_at (l : List S38) (i : Nat) : rd_T38 l (i : Int) = at_ l i := by simp [rd_T38, at_]
def isM (x : S38) (t : Int) : Bool := decide (x.f0 = 4) && decide (x.f3 = t)
def findM (l : List S38) (t : Int) : Nat → Nat → Int
  | 0, _ => -1
  | d + 1, i => if isM (at_ l i) t = true then (i : Int) else findM l t d (i + 1)
def mark (l : List S38) (t : Int) (i : Nat) : Int := findM l t (l.length - i) i
theorem marked_loop (l : List S38) (t : Int) (hl : l.length ≤ 1000000) : ∀ d i, i + d = l.length → Ev (fun k => tamisref23_Marked.l0 k l t (i : Int)) (findM l t d i)
  | 0, i, hi => Ev.step (fun k => by rw [tamisref23_Marked.l0, if_neg (by omega)]; rfl) (Ev.now _)
  | d + 1, i, hi => by
    have ih := marked_loop l t hl d (i + 1) (by omega)
    rw [findM]
    refine Ev.step (fun k => by rw [tamisref23_Marked.l0, if_pos (by omega), if_pos (by omega), rd_at, wn i (by omega)]) ?_
    by_cases c1 : (at_ l i).f0 = 4
    · refine Ev.congr (fun k => by rw [if_pos c1]) ?_
      by_cases c2 : (at_ l i).f3 = t
      · rw [if_pos (by unfold isM; rw [decide_eq_true c1, decide_eq_true c2]; rfl)]; exact Ev.congr (fun k => by rw [if_pos c2]) (Ev.now _)
      · rw [if_neg (by unfold isM; rw [decide_eq_false c2, Bool.and_false]; decide)]; exact Ev.congr (fun k => by rw [if_neg c2]) ih
    · rw [if_neg (by unfold isM; rw [decide_eq_false c1, Bool.false_and]; decide)]; exact Ev.congr (fun k => by rw [if_neg c1]) ih
theorem marked_ev (l : List S38) (t : Int) (i : Nat) (hl : l.length ≤ 1000000) (hi : i ≤ l.length) : Ev (fun k => tamisref23_Marked.f k l t (i : Int)) (mark l t i) := by
  unfold tamisref23_Marked.f
  exact marked_loop l t hl _ i (by omega)
theorem find_spec (l : List S38) (t : Int) : ∀ d i, (findM l t d i = -1 ∧ ∀ j, i ≤ j → j < i + d → isM (at_ l j) t = false) ∨
    ∃ j : Nat, findM l t d i = (j : Int) ∧ i ≤ j ∧ j < i + d ∧ isM (at_ l j) t = true ∧ ∀ m, i ≤ m → m < j → isM (at_ l m) t = false
  | 0, i => .inl ⟨rfl, fun j h1 h2 => by omega⟩
  | d + 1, i => by
    rw [findM]
    by_cases c : isM (at_ l i) t = true
    · rw [if_pos c]; exact .inr ⟨i, rfl, by omega, by omega, c, fun m h1 h2 => by omega⟩
    · rw [if_neg c]
      have c' : isM (at_ l i) t = false := Bool.eq_false_iff.2 c
      rcases find_spec l t d (i + 1) with ⟨h1, h2⟩ | ⟨j, h1, h2, h3, h4, h5⟩
      · refine .inl ⟨h1, fun j p q => ?_⟩
        by_cases e : j = i
        · rw [e]; exact c'
        · exact h2 j (by omega) (by omega)
      · refine .inr ⟨j, h1, by omega, by omega, h4, fun m p q => ?_⟩
        by_cases e : m = i
        · rw [e]; exact c'
        · exact h5 m (by omega) q
theorem mark_spec (l : List S38) (t : Int) (i : Nat) : (mark l t i = -1 ∧ ∀ j, i ≤ j → j < l.length → isM (at_ l j) t = false) ∨
    ∃ j : Nat, mark l t i = (j : Int) ∧ i ≤ j ∧ j < l.length ∧ isM (at_ l j) t = true ∧ ∀ m, i ≤ m → m < j → isM (at_ l m) t = false := by
  rcases find_spec l t (l.length - i) i with ⟨h1, h2⟩ | ⟨j, h1, h2, h3, h4, h5⟩
  · exact .inl ⟨h1, fun j p q => h2 j p (by omega)⟩
  · exact .inr ⟨j, h1, h2, by omega, h4, h5⟩

/-! ### What is wrong with an item -/
def formed (x : S38) : Bool :=
  (decide (x.f0 = 1) && !(decide (kindOf x.f1 = 0) || decide (kindOf x.f1 = 11) || decide (kindOf x.f1 = 12)) && decide (x.f3 = 0) && decide (x.f4 = 0)) ||
  ((decide (x.f0 = 2) || decide (x.f0 = 4)) && decide (x.f1 = 0) && decide (x.f2 = 0) && decide (x.f4 = 0)) || (decide (x.f0 = 3) && decide (kindOf x.f1 = 12))
def loc2 (l : List S38) (i : Nat) (x : S38) : Int :=
  if (x.f0 = 2 ∨ x.f0 = 3) ∧ mark l x.f3 i < 0 ∨ x.f0 = 3 ∧ mark l x.f4 i < 0 then 15 else 0
def locE (l : List S38) (i : Nat) (x : S38) : Int :=
  if formed x = false then 3 else if x.f0 = 4 ∧ mark l x.f3 0 < i then 1 else loc2 l i x
theorem loc2_ev (l : List S38) (hl : l.length ≤ 1000000) (i : Nat) (hi : i < l.length) (x : S38) : Ev (fun k => tamisref23_local.j2 k l (i : Int) x.f0 x.f1 x.f2 x.f3 x.f4) (loc2 l i x) := by
  unfold loc2
  by_cases c2 : x.f0 = 2
  · refine Ev.step (fun k => by rw [tamisref23_local.j2, if_pos c2]) ?_
    refine Ev.bind (marked_ev l x.f3 i hl (by omega)) ?_
    by_cases z : mark l x.f3 i < 0
    · rw [if_pos (.inl ⟨.inl c2, z⟩)]; exact Ev.congr (fun k => by rw [if_pos z]) (Ev.now _)
    · rw [if_neg (by rintro (h | h); exact z h.2; omega)]; exact Ev.congr (fun k => by rw [if_neg z, if_neg (by omega)]) (Ev.now _)
  · by_cases c3 : x.f0 = 3
    · refine Ev.step (fun k => by rw [tamisref23_local.j2, if_neg c2, if_pos c3]) ?_
      refine Ev.bind (marked_ev l x.f3 i hl (by omega)) ?_
      by_cases z : mark l x.f3 i < 0
      · rw [if_pos (.inl ⟨.inr c3, z⟩)]; exact Ev.congr (fun k => by rw [if_pos z]) (Ev.now _)
      · refine Ev.congr (fun k => by rw [if_neg z]) ?_
        refine Ev.bind (marked_ev l x.f4 i hl (by omega)) ?_
        by_cases y : mark l x.f4 i < 0
        · rw [if_pos (show (x.f0 = 2 ∨ x.f0 = 3) ∧ mark l x.f3 i < 0 ∨ x.f0 = 3 ∧ mark l x.f4 i < 0 from .inr ⟨c3, y⟩)]; exact Ev.congr (fun k => by rw [if_pos y]) (Ev.now _)
        · rw [if_neg (show ¬ ((x.f0 = 2 ∨ x.f0 = 3) ∧ mark l x.f3 i < 0 ∨ x.f0 = 3 ∧ mark l x.f4 i < 0) by rintro (h | h); exact z h.2; exact y h.2)]; exact Ev.congr (fun k => by rw [if_neg y]) (Ev.now _)
    · rw [if_neg (by omega)]
      exact Ev.step (fun k => by rw [tamisref23_local.j2, if_neg c2, if_neg c3]) (Ev.now _)
theorem loc1_ev (l : List S38) (hl : l.length ≤ 1000000) (i : Nat) (hi : i < l.length) (x : S38) (hf : formed x = true) : Ev (fun k => tamisref23_local.j1 k l (i : Int) x.f0 x.f1 x.f2 x.f3 x.f4) (locE l i x) := by
  have h2 := loc2_ev l hl i hi x
  unfold locE
  rw [if_neg (by rw [hf]; decide)]
  by_cases c4 : x.f0 = 4
  · refine Ev.step (fun k => by rw [tamisref23_local.j1, if_pos c4]) ?_
    have h0 := marked_ev l x.f3 0 hl (by omega)
    refine Ev.bind h0 ?_
    by_cases z : mark l x.f3 0 < i
    · rw [if_pos ⟨c4, z⟩]; exact Ev.congr (fun k => by rw [if_pos z]) (Ev.now _)
    · rw [if_neg (fun h => z h.2)]; exact Ev.congr (fun k => by rw [if_neg z]) h2
  · rw [if_neg (fun h => c4 h.1)]
    exact Ev.step (fun k => by rw [tamisref23_local.j1, if_neg c4]) h2
theorem local_ev (l : List S38) (hl : l.length ≤ 1000000) (i : Nat) (hi : i < l.length) : Ev (fun k => tamisref23_local.f k l (i : Int)) (locE l i (at_ l i)) := by
  have h1 := loc1_ev l hl i hi (at_ l i)
  unfold tamisref23_local.f
  refine Ev.congr (fun k => by rw [if_pos (by omega), if_pos (by omega), rd_at]) ?_
  refine Ev.bind (ref_kind (at_ l i).f1) ?_
  generalize at_ l i = x at *
  have bad : formed x = false → locE l i x = 3 := fun h => by unfold locE; rw [if_pos h]
  by_cases c1 : x.f0 = 1
  · refine Ev.congr (fun k => by rw [if_pos c1]) ?_
    by_cases k0 : kindOf x.f1 = 0
    · rw [bad (by simp [formed, c1, k0])]; exact Ev.congr (fun k => by rw [if_pos k0]) (Ev.now _)
    by_cases k11 : kindOf x.f1 = 11
    · rw [bad (by simp [formed, c1, k11])]; exact Ev.congr (fun k => by rw [if_neg k0, if_pos k11]) (Ev.now _)
    by_cases k12 : kindOf x.f1 = 12
    · rw [bad (by simp [formed, c1, k12])]; exact Ev.congr (fun k => by rw [if_neg k0, if_neg k11, if_pos k12]) (Ev.now _)
    refine Ev.congr (fun k => by rw [if_neg k0, if_neg k11, if_neg k12]) ?_
    by_cases y : x.f3 = 0
    · by_cases n : x.f4 = 0
      · exact Ev.congr (fun k => by rw [if_pos y, if_pos n]) (h1 (by simp [formed, c1, k0, k11, k12, y, n]))
      · rw [bad (by simp [formed, c1, n])]; exact Ev.congr (fun k => by rw [if_pos y, if_neg n]) (Ev.now _)
    · rw [bad (by simp [formed, c1, y])]; exact Ev.congr (fun k => by rw [if_neg y]) (Ev.now _)
  refine Ev.congr (fun k => by rw [if_neg c1]) ?_
  have plain : x.f0 = 2 ∨ x.f0 = 4 → Ev (fun k => tamisref23_local.j0 k l (i : Int) (kindOf x.f1) x.f0 true x.f0 x.f1 x.f2 x.f3 x.f4) (locE l i x) := by
    intro hx
    refine Ev.step (fun k => by rw [tamisref23_local.j0, if_pos rfl]) ?_
    by_cases y1 : x.f1 = 0
    · by_cases y2 : x.f2 = 0
      · by_cases y4 : x.f4 = 0
        · exact Ev.congr (fun k => by rw [if_pos y1, if_pos y2, if_pos y4]) (h1 (by rcases hx with h | h <;> simp [formed, h, y1, y2, y4]))
        · rw [bad (by rcases hx with h | h <;> simp [formed, h, y4])]; exact Ev.congr (fun k => by rw [if_pos y1, if_pos y2, if_neg y4]) (Ev.now _)
      · rw [bad (by rcases hx with h | h <;> simp [formed, h, y2])]; exact Ev.congr (fun k => by rw [if_pos y1, if_neg y2]) (Ev.now _)
    · rw [bad (by rcases hx with h | h <;> simp [formed, h, y1])]; exact Ev.congr (fun k => by rw [if_neg y1]) (Ev.now _)
  by_cases c2 : x.f0 = 2
  · exact Ev.congr (fun k => by rw [if_pos c2, show (x.f0 == 2) = true from beq_iff_eq.2 c2]) (plain (.inl c2))
  refine Ev.congr (fun k => by rw [if_neg c2]) ?_
  by_cases c4 : x.f0 = 4
  · exact Ev.congr (fun k => by rw [show (x.f0 == 4) = true from beq_iff_eq.2 c4]) (plain (.inr c4))
  refine Ev.congr (fun k => by rw [show (x.f0 == 4) = false from beq_eq_false_iff_ne.2 c4]) ?_
  refine Ev.step (fun k => by rw [tamisref23_local.j0, if_neg (by decide)]) ?_
  by_cases c3 : x.f0 = 3
  · refine Ev.congr (fun k => by rw [if_pos c3]) ?_
    by_cases k12 : kindOf x.f1 = 12
    · exact Ev.congr (fun k => by rw [if_pos k12]) (h1 (by simp [formed, c3, k12]))
    · rw [bad (by simp [formed, c3, k12])]; exact Ev.congr (fun k => by rw [if_neg k12]) (Ev.now _)
  · rw [bad (by simp [formed, c1, c2, c3, c4])]; exact Ev.congr (fun k => by rw [if_neg c3]) (Ev.now _)

/-! ### What is wrong with items -/
def badI (l : List S38) : Nat → Nat → Int × Int
  | 0, _ => (0, 0)
  | d + 1, i => if locE l i (at_ l i) = 0 then badI l d (i + 1) else ((i : Int), locE l i (at_ l i))
def lastE (l : List S38) : Int × Int := if (at_ l (l.length - 1)).f0 = 1 then (0, 0) else (((l.length - 1 : Nat) : Int), 12)
def checkE (l : List S38) : Int × Int :=
  if l.length = 0 then (0, 4) else if l.length > 65536 then (0, 5) else if (badI l l.length 0).2 = 0 then lastE l else badI l l.length 0
theorem bad_zero (l : List S38) : ∀ d i, (badI l d i).2 = 0 ↔ ∀ j, i ≤ j → j < i + d → locE l j (at_ l j) = 0
  | 0, i => by simp [badI]; intro j h1 h2; omega
  | d + 1, i => by
    rw [badI]
    by_cases h : locE l i (at_ l i) = 0
    · rw [if_pos h, bad_zero l d (i + 1)]
      constructor
      · intro H j h1 h2
        by_cases e : j = i
        · rw [e]; exact h
        · exact H j (by omega) (by omega)
      · intro H j h1 h2; exact H j (by omega) (by omega)
    · rw [if_neg h]
      constructor
      · intro H; exact absurd H h
      · intro H; exact absurd (H i (by omega) (by omega)) h
theorem check_loop (l : List S38) (hl : l.length ≤ 1000000) (hn : 0 < l.length) : ∀ d i, i + d = l.length → Ev (fun k => tamisref23_Check.l0 k l (i : Int)) (if (badI l d i).2 = 0 then lastE l else badI l d i)
  | 0, i, hi => by
    have ew : wrap64 ((l.length : Int) - 1) = ((l.length - 1 : Nat) : Int) := by rw [ws _ (by omega) (by omega)]; omega
    rw [show (badI l 0 i).2 = 0 from rfl, if_pos rfl]
    refine Ev.step (fun k => by rw [tamisref23_Check.l0, if_neg (by omega), ew, if_pos (by omega), if_pos (by omega), rd_at]) ?_
    unfold lastE
    by_cases c : (at_ l (l.length - 1)).f0 = 1
    · rw [if_pos c]; exact Ev.congr (fun k => by rw [if_pos c]) (Ev.now _)
    · rw [if_neg c]; exact Ev.congr (fun k => by rw [if_neg c]) (Ev.now _)
  | d + 1, i, hi => by
    have ih := check_loop l hl hn d (i + 1) (by omega)
    refine Ev.step (fun k => by rw [tamisref23_Check.l0, if_pos (by omega)]) ?_
    refine Ev.bind (local_ev l hl i (by omega)) ?_
    rw [badI]
    by_cases c : locE l i (at_ l i) = 0
    · rw [if_pos c]; exact Ev.congr (fun k => by rw [if_pos c, wn i (by omega)]) ih
    · rw [if_neg c, if_neg (show ¬ ((i : Int), locE l i (at_ l i)).2 = 0 from c)]; exact Ev.congr (fun k => by rw [if_neg c]) (Ev.now _)
theorem check_ev (l : List S38) (hl : l.length ≤ 1000000) : Ev (fun k => tamisref23_Check.f k l) (checkE l) := by
  unfold tamisref23_Check.f checkE
  by_cases c : l.length = 0
  · rw [if_pos c]; exact Ev.congr (fun k => by rw [if_pos (by omega)]) (Ev.now _)
  rw [if_neg c]
  by_cases c2 : l.length > 65536
  · rw [if_pos c2]; exact Ev.congr (fun k => by rw [if_neg (by omega), if_pos (by omega)]) (Ev.now _)
  rw [if_neg c2]
  refine Ev.congr (fun k => by rw [if_neg (by omega), if_neg (by omega)]) ?_
  exact check_loop l hl (by omega) l.length 0 (by omega)
end Go.Proofs.Ytmjpibeiglicdaa.RefE
