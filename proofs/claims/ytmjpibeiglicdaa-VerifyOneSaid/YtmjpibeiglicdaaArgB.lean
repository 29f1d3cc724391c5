/- Arguments that are structs by value, opened as the contracts want them. -/
import Derived.Lib.SmallJoins
import Derived.Test.YtmjpibeiglicdaaArgs
namespace Go.Proofs.Ytmjpibeiglicdaa.X
open Go.Joins Go.ChangeShapes Go.WideShapes Go.RowKit Go.Deep
set_option maxRecDepth 100000 in
theorem openA56 {H : Type} {enc : TypeId × Value → H} {W : World} {r : Reach} {b0 : Nat} {v : Value} {d : DataW H} {p : List MemPlace} (hv : Value.okWide Try.prog W r b0 56 v) (h : DataW.Trod enc Try.prog W 0 (fun _ => true) true 56 v d p) :
    ∃ a0 a1 a2 a3 : Int, v = .agg #[.int .u16 a0, .int .u8 a1, .int .u8 a2, .int .u32 a3] ∧ Wf56 ⟨a0, a1, a2, a3⟩ := by
  obtain ⟨c0, c1, c2, c3, y0, y1, y2, y3, n, rfl, _, _, t0, t1, t2, t3⟩ := open_agg4 Try.underlying56 (by kernel_rfl) cells56 hv h
  obtain ⟨x0, e0, _, w0⟩ := DataW.trod_int underOf56_35 t0
  obtain ⟨x1, e1, _, w1⟩ := DataW.trod_int underOf56_5 t1
  obtain ⟨x2, e2, _, w2⟩ := DataW.trod_int underOf56_5 t2
  obtain ⟨x3, e3, _, w3⟩ := DataW.trod_int underOf56_36 t3
  obtain rfl := (List.cons.inj e0).1
  obtain rfl := (List.cons.inj e1).1
  obtain rfl := (List.cons.inj e2).1
  obtain rfl := (List.cons.inj e3).1
  exact ⟨x0, x1, x2, x3, rfl, w0, w1, w2, w3⟩
end Go.Proofs.Ytmjpibeiglicdaa.X
