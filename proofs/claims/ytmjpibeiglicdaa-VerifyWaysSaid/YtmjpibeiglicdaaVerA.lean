/- Plain laws of layer 6: what is wrong with one instruction alone, as the program and the document tell it. -/
import Derived.Test.YtmjpibeiglicdaaX6
namespace Go.Proofs.Ytmjpibeiglicdaa.Ver
open Go.RowKit Go.Proofs.Ytmjpibeiglicdaa.X Go.Proofs.YtmjpibeiglicdaaW.PrintWords Go.Proofs.YtmjpibeiglicdaaW.PrintLast Go.Proofs.YtmjpibeiglicdaaW.PrintMore
open Go.Proofs.Ytmjpibeiglicdaa.Code (kindOf codes)

/-! ### Numbers -/
theorem u32_of {x : Int} (h : (Lit.int .u32 x).wf = true) : 0 ≤ x ∧ x < 4294967296 := by
  have : IntKind.u32.min ≤ x ∧ x ≤ IntKind.u32.max := by simpa [Lit.wf] using h
  have e1 : IntKind.u32.min = 0 := by decide
  have e2 : IntKind.u32.max = 4294967295 := by decide
  omega
theorem u16_of {x : Int} (h : (Lit.int .u16 x).wf = true) : 0 ≤ x ∧ x < 65536 := by
  have : IntKind.u16.min ≤ x ∧ x ≤ IntKind.u16.max := by simpa [Lit.wf] using h
  have e1 : IntKind.u16.min = 0 := by decide
  have e2 : IntKind.u16.max = 65535 := by decide
  omega
theorem u8_of {x : Int} (h : (Lit.int .u8 x).wf = true) : 0 ≤ x ∧ x < 256 := by
  have : IntKind.u8.min ≤ x ∧ x ≤ IntKind.u8.max := by simpa [Lit.wf] using h
  have e1 : IntKind.u8.min = 0 := by decide
  have e2 : IntKind.u8.max = 255 := by decide
  omega
theorem ws (n : Int) (h0 : -9223372036854775808 ≤ n) (h1 : n < 9223372036854775808) : wrap64 n = n := by unfold wrap64; omega
theorem wu (n : Int) (h0 : 0 ≤ n) (h : n < 18446744073709551616) : IntKind.u64.wrap n = n := by rw [IntKind.wrap_u64]; omega

/-- The fields are of their kinds. -/
def Fit (x : S56) : Prop := 0 ≤ x.f0 ∧ x.f0 < 65536 ∧ 0 ≤ x.f1 ∧ x.f1 < 256 ∧ 0 ≤ x.f2 ∧ x.f2 < 256 ∧ 0 ≤ x.f3 ∧ x.f3 < 4294967296
theorem fit_z : Fit z56 := by unfold Fit z56; decide

/-! ### Codes -/
theorem all_codes (p : Int → Bool) (h : (codes.all fun q => p q.1) = true) (c : Int) (hc : kindOf c ≠ 0) : p c = true := by
  unfold kindOf at hc
  cases hf : codes.find? (fun q => c == q.1) with
  | none => rw [hf] at hc; exact absurd rfl hc
  | some q =>
    have h1 : (c == q.1) = true := by simpa using List.find?_some hf
    have h2 := List.mem_of_find?_eq_some hf
    have h3 := List.all_eq_true.1 h q h2
    rw [beq_iff_eq] at h1
    rw [h1]; exact h3
theorem kind_range (c : Int) : 0 ≤ kindOf c ∧ kindOf c ≤ 16 := by
  by_cases h : kindOf c = 0
  · omega
  · have := all_codes (fun c => decide (0 ≤ kindOf c ∧ kindOf c ≤ 16)) (by decide +kernel) c h
    simpa using this
theorem not_code (c : Int) (h : kindOf c = 0) : ∀ q ∈ codes, c ≠ q.1 := by
  intro q hq e
  have hz : (codes.all fun q => decide (kindOf q.1 ≠ 0)) = true := by decide +kernel
  have := List.all_eq_true.1 hz q hq
  rw [← e] at this
  simp [h] at this

/-! ### The reference's kinds -/
theorem name_none (a : Int) (x3 : List ByteArray) (x4 : List Int) (hl : x4.length ≤ 1000) (h : ∀ c ∈ x4, c ≠ a) (d : Nat) : ∀ i : Nat, i ≤ x4.length → x4.length - i = d →
    Ev (fun k => tamisref04_Name.l0 k a x3 x4 (i : Int)) (⟨#[]⟩ : ByteArray) := by
  induction d with
  | zero =>
    intro i h1 h2
    exact Ev.step (fun k => by rw [tamisref04_Name.l0, if_neg (by omega)]) (Ev.now _)
  | succ d ih =>
    intro i h1 h2
    have hlt : i < x4.length := by omega
    have hne : ¬ rd x4 (i : Int) = a := by
      have e : rd x4 (i : Int) = x4[i] := by simp [rd, hlt]
      rw [e]
      exact h _ (List.getElem_mem hlt)
    have := ih (i + 1) (by omega) (by omega)
    refine Ev.step (fun k => by rw [tamisref04_Name.l0, if_pos (by omega), if_pos (by omega), if_neg hne, ws ((i : Int) + 1) (by omega) (by omega)]) ?_
    exact this
theorem ref_kind (c : Int) : Ev (fun k => tamisref04_Kind.f k c) (kindOf c) := by
  by_cases h : kindOf c = 0
  · rw [h]
    have hn := not_code c h
    have hall : ∀ a ∈ ([0, 1, 2, 3, 4, 5, 6, 7, 12, 20, 21, 22, 28, 29, 32, 36, 37, 44, 45, 52, 53, 60, 61, 68, 69, 76, 77, 84, 92, 96, 97, 100, 108, 116, 124, 128, 129, 132, 135, 164, 172] : List Int), a ≠ c := by
      intro a ha e
      have hc : (([0, 1, 2, 3, 4, 5, 6, 7, 12, 20, 21, 22, 28, 29, 32, 36, 37, 44, 45, 52, 53, 60, 61, 68, 69, 76, 77, 84, 92, 96, 97, 100, 108, 116, 124, 128, 129, 132, 135, 164, 172] : List Int).all fun a => decide (kindOf a ≠ 0)) = true := by decide +kernel
      have := List.all_eq_true.1 hc a ha
      rw [e] at this
      simp [h] at this
    unfold tamisref04_Kind.f tamisref04_Name.f tamisref04_All.f
    refine Ev.bind (a := (⟨#[]⟩ : ByteArray)) ?_ ?_
    · exact name_none c _ _ (by decide) hall _ 0 (by omega) rfl
    · have e0 : (⟨#[]⟩ : ByteArray).toList = ([] : List UInt8) := by decide +kernel
      exact Ev.congr (fun k => by rw [if_pos e0]) (Ev.now _)
  · have hp := all_codes (fun c => decide (tamisref04_Kind.f 60 c = some (kindOf c))) (by decide +kernel) c h
    have hp : tamisref04_Kind.f 60 c = some (kindOf c) := by simpa using hp
    exact Ev.of (fun k => tamisref04_Kind.mono c k) hp

/-! ### What is wrong with one alone -/
def aluE (c K : Int) : Int := if c = 52 ∧ K = 0 then 8 else if (c = 100 ∨ c = 116) ∧ K ≥ 32 then 9 else 0
def locE (n i : Nat) (x : S56) : Int :=
  if kindOf x.f0 = 0 then 6
  else if kindOf x.f0 = 1 then (if x.f3 ≥ 64 ∨ x.f3 % 4 ≠ 0 then 11 else 0)
  else if kindOf x.f0 = 4 ∨ kindOf x.f0 = 6 ∨ kindOf x.f0 = 8 ∨ kindOf x.f0 = 9 then (if x.f3 ≥ 16 then 10 else 0)
  else if kindOf x.f0 = 10 then aluE x.f0 x.f3
  else if kindOf x.f0 = 11 then (if (i : Int) + 1 + x.f3 ≥ n then 7 else 0)
  else if kindOf x.f0 = 12 then (if (i : Int) + 1 + x.f1 ≥ n ∨ (i : Int) + 1 + x.f2 ≥ n then 7 else 0)
  else 0

def FX (c : Int) : Bool := (Go.bits .and .u16 c 8) != 0
def OPc (c : Int) : Int := wrap64 (Go.bits .and .u16 c 240)
theorem alu_codes (c : Int) (h : kindOf c = 10) : if FX c then c ≠ 52 ∧ c ≠ 100 ∧ c ≠ 116 else (OPc c = 48 ↔ c = 52) ∧ (OPc c = 96 ↔ c = 100) ∧ (OPc c = 112 ↔ c = 116) := by
  have := all_codes (fun c => decide (kindOf c = 10 → if FX c then c ≠ 52 ∧ c ≠ 100 ∧ c ≠ 116 else (OPc c = 48 ↔ c = 52) ∧ (OPc c = 96 ↔ c = 100) ∧ (OPc c = 112 ↔ c = 116))) (by decide +kernel) c (by omega)
  exact of_decide_eq_true this h
theorem alu_ev (f0 f1 f2 f3 : Int) (h : kindOf f0 = 10) (_h3 : 0 ≤ f3) : Ev (fun k => verify_alu.f k f0 f1 f2 f3) (aluE f0 f3) := by
  have hc := alu_codes f0 h
  have e1 : instr_FromX.f f0 f1 f2 f3 = some (FX f0) := rfl
  have e2 : instr_Op.f f0 f1 f2 f3 = some (OPc f0) := rfl
  unfold verify_alu.f
  rw [e1, e2]
  by_cases hx : FX f0 = true
  · rw [if_pos hx] at hc
    refine Ev.congr (fun k => by rw [Option.bind_some, if_pos hx]) ?_
    rw [show aluE f0 f3 = 0 by unfold aluE; rw [if_neg (by omega), if_neg (by omega)]]
    exact Ev.now _
  · rw [if_neg hx] at hc
    obtain ⟨c1, c2, c3⟩ := hc
    refine Ev.congr (fun k => by rw [Option.bind_some, if_neg hx, Option.bind_some]) ?_
    by_cases o1 : OPc f0 = 48
    · have := c1.1 o1
      refine Ev.congr (fun k => by rw [if_pos o1]) ?_
      by_cases z : f3 = 0
      · refine Ev.step (fun k => by rw [verify_alu.j0, if_pos (beq_iff_eq.2 z)]) ?_
        rw [show aluE f0 f3 = 8 by unfold aluE; rw [if_pos ⟨this, z⟩]]
        exact Ev.now _
      · refine Ev.step (fun k => by rw [verify_alu.j0, if_neg (by simpa using z), if_neg (by omega), if_neg (by omega)]) ?_
        rw [show aluE f0 f3 = 0 by unfold aluE; rw [if_neg (by omega), if_neg (by omega)]]
        exact Ev.now _
    · have n1 : ¬ f0 = 52 := fun e => o1 (c1.2 e)
      refine Ev.congr (fun k => by rw [if_neg o1]) ?_
      by_cases o2 : OPc f0 = 96
      · have := c2.1 o2
        by_cases z : f3 ≥ 32
        · refine Ev.step (fun k => by rw [verify_alu.j0, if_neg (by decide), if_pos o2, if_pos z]) ?_
          rw [show aluE f0 f3 = 9 by unfold aluE; rw [if_neg (by omega), if_pos (by omega)]]
          exact Ev.now _
        · refine Ev.step (fun k => by rw [verify_alu.j0, if_neg (by decide), if_pos o2, if_neg z]) ?_
          rw [show aluE f0 f3 = 0 by unfold aluE; rw [if_neg (by omega), if_neg (by omega)]]
          exact Ev.now _
      · have n2 : ¬ f0 = 100 := fun e => o2 (c2.2 e)
        by_cases o3 : OPc f0 = 112
        · have := c3.1 o3
          by_cases z : f3 ≥ 32
          · refine Ev.step (fun k => by rw [verify_alu.j0, if_neg (by decide), if_neg o2, if_pos o3, if_pos z]) ?_
            rw [show aluE f0 f3 = 9 by unfold aluE; rw [if_neg (by omega), if_pos (by omega)]]
            exact Ev.now _
          · refine Ev.step (fun k => by rw [verify_alu.j0, if_neg (by decide), if_neg o2, if_pos o3, if_neg z]) ?_
            rw [show aluE f0 f3 = 0 by unfold aluE; rw [if_neg (by omega), if_neg (by omega)]]
            exact Ev.now _
        · have n3 : ¬ f0 = 116 := fun e => o3 (c3.2 e)
          refine Ev.step (fun k => by rw [verify_alu.j0, if_neg (by decide), if_neg o2, if_neg o3]) ?_
          rw [show aluE f0 f3 = 0 by unfold aluE; rw [if_neg (by omega), if_neg (by omega)]]
          exact Ev.now _

/-- How far an instruction goes, but for what returns. -/
def jmp (x : S56) : List Int := if kindOf x.f0 = 11 then [x.f3] else if kindOf x.f0 = 12 then [x.f1, x.f2] else if kindOf x.f0 = 13 then [] else if kindOf x.f0 = 14 then [] else [0]
theorem jumps_eq (x : S56) (hf : Fit x) : verify_jumps.f x.f0 x.f1 x.f2 x.f3 = some (jmp x) := by
  obtain ⟨a0, a1, b0, b1, c0, c1, d0, d1⟩ := hf
  unfold verify_jumps.f code_Kind.f jmp
  rw [Option.bind_some, wu x.f3 d0 (by omega), wu x.f1 b0 (by omega), wu x.f2 c0 (by omega)]
  by_cases h1 : kindOf x.f0 = 11
  · rw [if_pos h1, if_pos h1]
  · rw [if_neg h1, if_neg h1]
    by_cases h2 : kindOf x.f0 = 12
    · rw [if_pos h2, if_pos h2]
    · rw [if_neg h2, if_neg h2]
      by_cases h3 : kindOf x.f0 = 13
      · rw [if_pos h3, if_pos h3]
      · rw [if_neg h3, if_neg h3]
        by_cases h4 : kindOf x.f0 = 14
        · rw [if_pos h4, if_pos h4]
        · rw [if_neg h4, if_neg h4]

theorem out_loop (l : List S56) (hl : l.length ≤ 10000) (i : Nat) (hi : i < l.length) (js : List Int) (hjl : js.length ≤ 2) (hj : ∀ j ∈ js, 0 ≤ j ∧ j < 4294967296) (d : Nat) : ∀ m : Nat, m ≤ js.length → js.length - m = d →
    Ev (fun k => verify_out.l0 k l (i : Int) js (js.length : Int) (m : Int)) (if (js.drop m).any (fun j => decide ((i : Int) + 1 + j ≥ l.length)) then 7 else 0) := by
  induction d with
  | zero =>
    intro m h1 h2
    have : js.drop m = [] := List.drop_eq_nil_of_le (by omega)
    rw [this, if_neg (by simp)]
    exact Ev.step (fun k => by rw [verify_out.l0, if_neg (by omega)]) (Ev.now _)
  | succ d ih =>
    intro m h1 h2
    have hlt : m < js.length := by omega
    have hd : js.drop m = js[m] :: js.drop (m + 1) := List.drop_eq_getElem_cons hlt
    have er : rd js (m : Int) = js[m] := by simp [rd, hlt]
    have hb := hj js[m] (List.getElem_mem hlt)
    obtain ⟨j, hje⟩ : ∃ j, js[m] = j := ⟨_, rfl⟩
    rw [hje] at hd er hb
    have ew : IntKind.u64.wrap (IntKind.u64.wrap (IntKind.u64.wrap (i : Int) + 1) + j) = (i : Int) + 1 + j := by
      rw [wu (i : Int) (by omega) (by omega), wu ((i : Int) + 1) (by omega) (by omega), wu _ (by omega) (by omega)]
    have ihm := ih (m + 1) (by omega) (by omega)
    rw [hd, List.any_cons]
    by_cases c : (i : Int) + 1 + j ≥ l.length
    · rw [decide_eq_true c, Bool.true_or, if_pos rfl]
      refine Ev.step (fun k => by rw [verify_out.l0, if_pos (by omega), if_pos (by omega), if_pos (by omega), er, ew, wu (l.length : Int) (by omega) (by omega), if_pos c]) (Ev.now _)
    · rw [decide_eq_false c, Bool.false_or]
      refine Ev.step (fun k => by rw [verify_out.l0, if_pos (by omega), if_pos (by omega), if_pos (by omega), er, ew, wu (l.length : Int) (by omega) (by omega), if_neg c, ws ((m : Int) + 1) (by omega) (by omega)]) ?_
      exact ihm
theorem out_ev (l : List S56) (hl : l.length ≤ 10000) (i : Nat) (hi : i < l.length) (x : S56) (hx : rd_T56 l (i : Int) = x) (hf : Fit x) (hk : kindOf x.f0 = 11 ∨ kindOf x.f0 = 12) :
    Ev (fun k => verify_out.f k l (i : Int)) (if (jmp x).any (fun j => decide ((i : Int) + 1 + j ≥ l.length)) then 7 else 0) := by
  have hj : (jmp x).length ≤ 2 ∧ ∀ j ∈ jmp x, 0 ≤ j ∧ j < 4294967296 := by
    obtain ⟨a0, a1, b0, b1, c0, c1, d0, d1⟩ := hf
    unfold jmp
    rcases hk with h | h
    · rw [if_pos h]; simp; omega
    · rw [if_neg (by omega), if_pos h]; simp; omega
  have := out_loop l hl i hi (jmp x) hj.1 hj.2 _ 0 (by omega) rfl
  unfold verify_out.f
  refine Ev.congr (fun k => by rw [if_pos (by omega), if_pos (by omega), hx, jumps_eq x hf, Option.bind_some]) ?_
  exact this

theorem local_in (l : List S56) (hl : l.length ≤ 10000) (i : Nat) (hi : i < l.length) (x : S56) (hx : rd_T56 l (i : Int) = x) (hf : Fit x) :
    Ev (fun k => verify_Local.f k l (i : Int)) (locE l.length i x) := by
  have hf' := hf
  obtain ⟨a0, a1, b0, b1, c0, c1, d0, d1⟩ := hf'
  have hK : code_Kind.f x.f0 = some (kindOf x.f0) := rfl
  unfold verify_Local.f locE
  refine Ev.congr (fun k => by rw [if_neg (by omega), decide_eq_false (show ¬ (i : Int) ≥ (l.length : Int) by omega)]) ?_
  refine Ev.step (fun k => by rw [verify_Local.j0, if_neg (by decide), if_pos (by omega), if_pos (by omega), hx, hK, Option.bind_some]) ?_
  by_cases k0 : kindOf x.f0 = 0
  · rw [if_pos k0]; exact Ev.congr (fun k => by rw [if_pos k0]) (Ev.now _)
  rw [if_neg k0]
  refine Ev.congr (fun k => by rw [if_neg k0]) ?_
  by_cases k1 : kindOf x.f0 = 1
  · rw [if_pos k1]
    refine Ev.congr (fun k => by rw [if_pos k1]) ?_
    have hL : record_Load.f 0 0 0 0 0 0 0 0 0 0 0 0 0 0 0 0 x.f3 = Rec.loadF [0, 0, 0, 0, 0, 0, 0, 0, 0, 0, 0, 0, 0, 0, 0, 0] x.f3 := rfl
    rw [hL]
    by_cases q1 : x.f3 ≥ 64
    · rw [if_pos (.inl q1)]
      exact Ev.congr (fun k => by rw [Rec.loadF, if_pos d0, if_pos q1, Option.bind_some, if_neg (by decide)]) (Ev.now _)
    · by_cases q2 : x.f3 % 4 = 0
      · rw [if_neg (by omega)]
        exact Ev.congr (fun k => by rw [Rec.loadF, if_pos d0, if_neg q1, if_pos q2, Option.bind_some, if_pos rfl]) (Ev.now _)
      · rw [if_pos (.inr q2)]
        exact Ev.congr (fun k => by rw [Rec.loadF, if_pos d0, if_neg q1, if_neg q2, Option.bind_some, if_neg (by decide)]) (Ev.now _)
  rw [if_neg k1]
  refine Ev.congr (fun k => by rw [if_neg k1]) ?_
  have word : ∀ q, kindOf x.f0 = q → Ev (fun k => verify_Local.j1 k l (i : Int) (kindOf x.f0) (kindOf x.f0 == q) x.f0 x.f1 x.f2 x.f3) (if x.f3 ≥ 16 then 10 else 0) := by
    intro q hq
    by_cases z : x.f3 ≥ 16
    · rw [if_pos z]; exact Ev.step (fun k => by rw [verify_Local.j1, if_pos (beq_iff_eq.2 hq), if_pos z]) (Ev.now _)
    · rw [if_neg z]; exact Ev.step (fun k => by rw [verify_Local.j1, if_pos (beq_iff_eq.2 hq), if_neg z]) (Ev.now _)
  by_cases k4 : kindOf x.f0 = 4
  · rw [if_pos (.inl k4)]; exact Ev.congr (fun k => by rw [if_pos k4]) (word 4 k4)
  refine Ev.congr (fun k => by rw [if_neg k4]) ?_
  by_cases k6 : kindOf x.f0 = 6
  · rw [if_pos (.inr (.inl k6))]; exact Ev.congr (fun k => by rw [if_pos k6]) (word 6 k6)
  refine Ev.congr (fun k => by rw [if_neg k6]) ?_
  by_cases k8 : kindOf x.f0 = 8
  · rw [if_pos (.inr (.inr (.inl k8)))]; exact Ev.congr (fun k => by rw [if_pos k8]) (word 8 k8)
  refine Ev.congr (fun k => by rw [if_neg k8]) ?_
  by_cases k9 : kindOf x.f0 = 9
  · rw [if_pos (.inr (.inr (.inr k9)))]; exact word 9 k9
  rw [if_neg (by omega)]
  have n9 : ¬ (kindOf x.f0 == 9) = true := by simpa using k9
  by_cases k10 : kindOf x.f0 = 10
  · rw [if_pos k10]
    refine Ev.step (fun k => by rw [verify_Local.j1, if_neg n9, if_pos k10]) ?_
    exact Ev.bind (alu_ev x.f0 x.f1 x.f2 x.f3 k10 d0) (Ev.now _)
  rw [if_neg k10]
  by_cases k11 : kindOf x.f0 = 11
  · rw [if_pos k11]
    refine Ev.step (fun k => by rw [verify_Local.j1, if_neg n9, if_neg k10, if_pos k11]) ?_
    have := out_ev l hl i hi x hx hf (.inl k11)
    rw [show jmp x = [x.f3] by unfold jmp; rw [if_pos k11]] at this
    simp only [List.any_cons, List.any_nil, Bool.or_false, decide_eq_true_eq] at this
    exact Ev.bind this (Ev.now _)
  rw [if_neg k11]
  by_cases k12 : kindOf x.f0 = 12
  · rw [if_pos k12]
    refine Ev.step (fun k => by rw [verify_Local.j1, if_neg n9, if_neg k10, if_neg k11, if_pos k12]) ?_
    have := out_ev l hl i hi x hx hf (.inr k12)
    rw [show jmp x = [x.f1, x.f2] by unfold jmp; rw [if_neg k11, if_pos k12]] at this
    simp only [List.any_cons, List.any_nil, Bool.or_false, Bool.or_eq_true, decide_eq_true_eq] at this
    exact Ev.bind this (Ev.now _)
  rw [if_neg k12]
  exact Ev.step (fun k => by rw [verify_Local.j1, if_neg n9, if_neg k10, if_neg k11, if_neg k12]) (Ev.now _)
theorem local_out (l : List S56) (i : Int) (h : i < 0 ∨ (l.length : Int) ≤ i) : Ev (fun k => verify_Local.f k l i) 2 := by
  unfold verify_Local.f
  by_cases c : i < 0
  · refine Ev.congr (fun k => by rw [if_pos c]) ?_
    exact Ev.step (fun k => by rw [verify_Local.j0, if_pos rfl]) (Ev.now _)
  · refine Ev.congr (fun k => by rw [if_neg c, decide_eq_true (show i ≥ (l.length : Int) by omega)]) ?_
    exact Ev.step (fun k => by rw [verify_Local.j0, if_pos rfl]) (Ev.now _)

/-! ### The reference's word -/
theorem ref_local_in (l : List S56) (hl : l.length ≤ 10000) (i : Nat) (hi : i < l.length) (x : S56) (hx : rd_T56 l (i : Int) = x) (hf : Fit x) :
    Ev (fun k => tamisref06_Local.f k l (i : Int)) (locE l.length i x) := by
  have hf' := hf
  obtain ⟨a0, a1, b0, b1, c0, c1, d0, d1⟩ := hf'
  have hn : IntKind.u64.wrap (l.length : Int) = (l.length : Int) := wu _ (by omega) (by omega)
  have hi1 : IntKind.u64.wrap (IntKind.u64.wrap (i : Int) + 1) = (i : Int) + 1 := by rw [wu (i : Int) (by omega) (by omega), wu _ (by omega) (by omega)]
  unfold tamisref06_Local.f locE
  refine Ev.congr (fun k => by rw [if_neg (by omega), decide_eq_false (show ¬ (i : Int) ≥ (l.length : Int) by omega)]) ?_
  refine Ev.step (fun k => by rw [tamisref06_Local.j0, if_neg (by decide), if_pos (by omega), if_pos (by omega), hx, hn, hi1]) ?_
  refine Ev.bind (ref_kind x.f0) ?_
  by_cases k0 : kindOf x.f0 = 0
  · rw [if_pos k0]; exact Ev.congr (fun k => by rw [if_pos k0]) (Ev.now _)
  rw [if_neg k0]
  refine Ev.congr (fun k => by rw [if_neg k0]) ?_
  by_cases k1 : kindOf x.f0 = 1
  · rw [if_pos k1]
    refine Ev.congr (fun k => by rw [if_pos k1]) ?_
    have ht : Int.tmod x.f3 4 = x.f3 % 4 := Int.tmod_eq_emod_of_nonneg d0
    by_cases q1 : x.f3 ≥ 64
    · rw [if_pos (show x.f3 ≥ 64 ∨ x.f3 % 4 ≠ 0 from .inl q1)]
      exact Ev.congr (fun k => by rw [if_pos q1]) (Ev.now _)
    · by_cases q2 : x.f3 % 4 = 0
      · rw [if_neg (show ¬ (x.f3 ≥ 64 ∨ x.f3 % 4 ≠ 0) by omega)]
        exact Ev.congr (fun k => by rw [if_neg q1, ht, if_pos q2]) (Ev.now _)
      · rw [if_pos (show x.f3 ≥ 64 ∨ x.f3 % 4 ≠ 0 from .inr q2)]
        exact Ev.congr (fun k => by rw [if_neg q1, ht, if_neg q2]) (Ev.now _)
  rw [if_neg k1]
  refine Ev.congr (fun k => by rw [if_neg k1]) ?_
  have word : ∀ q, kindOf x.f0 = q → Ev (fun k => tamisref06_Local.j1 k (l.length : Int) ((i : Int) + 1) (kindOf x.f0) (kindOf x.f0 == q) x.f0 x.f1 x.f2 x.f3) (if x.f3 ≥ 16 then 10 else 0) := by
    intro q hq
    by_cases z : x.f3 ≥ 16
    · rw [if_pos z]; exact Ev.step (fun k => by rw [tamisref06_Local.j1, if_pos (beq_iff_eq.2 hq), if_pos z]) (Ev.now _)
    · rw [if_neg z]; exact Ev.step (fun k => by rw [tamisref06_Local.j1, if_pos (beq_iff_eq.2 hq), if_neg z]) (Ev.now _)
  by_cases k4 : kindOf x.f0 = 4
  · rw [if_pos (.inl k4)]; exact Ev.congr (fun k => by rw [if_pos k4]) (word 4 k4)
  refine Ev.congr (fun k => by rw [if_neg k4]) ?_
  by_cases k6 : kindOf x.f0 = 6
  · rw [if_pos (.inr (.inl k6))]; exact Ev.congr (fun k => by rw [if_pos k6]) (word 6 k6)
  refine Ev.congr (fun k => by rw [if_neg k6]) ?_
  by_cases k8 : kindOf x.f0 = 8
  · rw [if_pos (.inr (.inr (.inl k8)))]; exact Ev.congr (fun k => by rw [if_pos k8]) (word 8 k8)
  refine Ev.congr (fun k => by rw [if_neg k8]) ?_
  by_cases k9 : kindOf x.f0 = 9
  · rw [if_pos (.inr (.inr (.inr k9)))]; exact word 9 k9
  rw [if_neg (by omega)]
  have n9 : ¬ (kindOf x.f0 == 9) = true := by simpa using k9
  by_cases k10 : kindOf x.f0 = 10
  · rw [if_pos k10]
    refine Ev.step (fun k => by rw [tamisref06_Local.j1, if_neg n9, if_pos k10]) ?_
    unfold aluE
    by_cases q1 : x.f0 = 52
    · refine Ev.congr (fun k => by rw [if_pos q1]) ?_
      by_cases z : x.f3 = 0
      · rw [if_pos ⟨q1, z⟩]; exact Ev.step (fun k => by rw [tamisref06_Local.j2, if_pos (beq_iff_eq.2 z)]) (Ev.now _)
      · rw [if_neg (by omega), if_neg (by omega)]; exact Ev.step (fun k => by rw [tamisref06_Local.j2, if_neg (by simpa using z), if_neg (by omega), if_neg (by omega)]) (Ev.now _)
    · refine Ev.congr (fun k => by rw [if_neg q1]) ?_
      rw [if_neg (by omega)]
      by_cases q2 : x.f0 = 100
      · by_cases z : x.f3 ≥ 32
        · rw [if_pos (by omega)]; exact Ev.step (fun k => by rw [tamisref06_Local.j2, if_neg (by decide), if_pos q2, if_pos z]) (Ev.now _)
        · rw [if_neg (by omega)]; exact Ev.step (fun k => by rw [tamisref06_Local.j2, if_neg (by decide), if_pos q2, if_neg z]) (Ev.now _)
      · by_cases q3 : x.f0 = 116
        · by_cases z : x.f3 ≥ 32
          · rw [if_pos (by omega)]; exact Ev.step (fun k => by rw [tamisref06_Local.j2, if_neg (by decide), if_neg q2, if_pos q3, if_pos z]) (Ev.now _)
          · rw [if_neg (by omega)]; exact Ev.step (fun k => by rw [tamisref06_Local.j2, if_neg (by decide), if_neg q2, if_pos q3, if_neg z]) (Ev.now _)
        · rw [if_neg (by omega)]; exact Ev.step (fun k => by rw [tamisref06_Local.j2, if_neg (by decide), if_neg q2, if_neg q3]) (Ev.now _)
  rw [if_neg k10]
  by_cases k11 : kindOf x.f0 = 11
  · rw [if_pos k11]
    have e : IntKind.u64.wrap ((i : Int) + 1 + IntKind.u64.wrap x.f3) = (i : Int) + 1 + x.f3 := by rw [wu x.f3 d0 (by omega), wu _ (by omega) (by omega)]
    by_cases z : (i : Int) + 1 + x.f3 ≥ l.length
    · rw [if_pos z]; exact Ev.step (fun k => by rw [tamisref06_Local.j1, if_neg n9, if_neg k10, if_pos k11, e, if_pos z]) (Ev.now _)
    · rw [if_neg z]; exact Ev.step (fun k => by rw [tamisref06_Local.j1, if_neg n9, if_neg k10, if_pos k11, e, if_neg z]) (Ev.now _)
  rw [if_neg k11]
  by_cases k12 : kindOf x.f0 = 12
  · rw [if_pos k12]
    have e1 : IntKind.u64.wrap ((i : Int) + 1 + IntKind.u64.wrap x.f1) = (i : Int) + 1 + x.f1 := by rw [wu x.f1 b0 (by omega), wu _ (by omega) (by omega)]
    have e2 : IntKind.u64.wrap ((i : Int) + 1 + IntKind.u64.wrap x.f2) = (i : Int) + 1 + x.f2 := by rw [wu x.f2 c0 (by omega), wu _ (by omega) (by omega)]
    by_cases z : (i : Int) + 1 + x.f1 ≥ l.length
    · rw [if_pos (.inl z)]; exact Ev.step (fun k => by rw [tamisref06_Local.j1, if_neg n9, if_neg k10, if_neg k11, if_pos k12, e1, if_pos z]) (Ev.now _)
    · by_cases y : (i : Int) + 1 + x.f2 ≥ l.length
      · rw [if_pos (.inr y)]; exact Ev.step (fun k => by rw [tamisref06_Local.j1, if_neg n9, if_neg k10, if_neg k11, if_pos k12, e1, if_neg z, e2, if_pos y]) (Ev.now _)
      · rw [if_neg (by omega)]; exact Ev.step (fun k => by rw [tamisref06_Local.j1, if_neg n9, if_neg k10, if_neg k11, if_pos k12, e1, if_neg z, e2, if_neg y]) (Ev.now _)
  rw [if_neg k12]
  exact Ev.step (fun k => by rw [tamisref06_Local.j1, if_neg n9, if_neg k10, if_neg k11, if_neg k12]) (Ev.now _)
theorem ref_local_out (l : List S56) (i : Int) (h : i < 0 ∨ (l.length : Int) ≤ i) : Ev (fun k => tamisref06_Local.f k l i) 2 := by
  unfold tamisref06_Local.f
  by_cases c : i < 0
  · refine Ev.congr (fun k => by rw [if_pos c]) ?_
    exact Ev.step (fun k => by rw [tamisref06_Local.j0, if_pos rfl]) (Ev.now _)
  · refine Ev.congr (fun k => by rw [if_neg c, decide_eq_true (show i ≥ (l.length : Int) by omega)]) ?_
    exact Ev.step (fun k => by rw [tamisref06_Local.j0, if_pos rfl]) (Ev.now _)

end Go.Proofs.Ytmjpibeiglicdaa.Ver
