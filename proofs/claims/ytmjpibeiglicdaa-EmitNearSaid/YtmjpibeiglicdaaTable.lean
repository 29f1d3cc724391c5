/- code.table: the map that it makes. -/
import Derived.Test.YtmjpibeiglicdaaProg
import Derived.Maps.OwnSet
import Derived.WalkKit
namespace Go.Proofs.Ytmjpibeiglicdaa.Code
open Go.RowKit

theorem u153 : Try.prog.underlying 153 = some (.map 35 152) := by kernel_rfl
theorem u35 : Try.prog.underlying 35 = some (.int .u16) := by kernel_rfl
theorem zero152 (w : World) : (zeroValue 152).run Try.prog w = .ok (.agg #[.int .i64 0, .string ⟨#[]⟩]) w := by kernel_rfl

section
variable {P : Program}
theorem push_set {α : Type} (h : Array α) (a b : α) : (h.push a).setIfInBounds h.size b = h.push b := by
  apply Array.ext'
  simp

theorem run_insert_new {t k e : TypeId} {q : IntKind} (ht : P.underlying t = some (.map k e)) (hk : P.underlying k = some (.int q)) (w : World) (es : Array MapEntry) (n : Nat) (x : Int) (v : Value)
    (hf : Instr.findNow (.int q) (.int q x) es.toList 0 = some none) :
    (Instr.mapUpdate t (.map (some w.heap.size)) (.int q x) v).run P (w.alloc (.map es n)) = .ok () (w.alloc (.map (es.push { key := .int q x, val := v, born := n }) (n + 1))) := by
  have hb : (w.alloc (.map es n)).heap[w.heap.size]? = some (.map es n) := (MapKept.heap_alloc w _).1
  have hc : (Instr.checkKey false 10000 k (.int q x)).run P (w.alloc (.map es n)) = .ok () (w.alloc (.map es n)) := by
    unfold Instr.checkKey
    simp only [Sem.run_bind, run_underlying hk, Result.andThen]
    rfl
  have hfk : (Instr.findKey k (.int q x) es.toList).run P (w.alloc (.map es n)) = .ok none (w.alloc (.map es n)) := by
    simp [Instr.findKey, run_underlying hk, hf]
  simp [Instr.mapUpdate, run_underlying ht, MapKept.run_getObj_map hb, hc, hfk, MapKept.run_setObj_map _ hb, Result.andThen]
  unfold World.alloc
  simp only [push_set]

theorem wpList_insert_new {ops : Array Oper} {rest : List Oper} {o : Oper} {a : Act} {Q : Exit → Act → World → Prop} (hg : o.guard = none) (m x v : Operand) (t : TypeId) (hop : o.op = Op.insert t m x v)
    {k e : TypeId} {q : IntKind} (ht : P.underlying t = some (.map k e)) (hk : P.underlying k = some (.int q)) (w : World) (es : Array MapEntry) (n : Nat) (hm : a.eval m = .map (some w.heap.size))
    (key : Int) (hx : a.eval x = .int q key) (val : Value) (hv : a.eval v = val) (hf : Instr.findNow (.int q) (.int q key) es.toList 0 = some none)
    (hK : wpList P ops Q rest (a.put o.dst undef) (w.alloc (.map (es.push { key := .int q key, val := val, born := n }) (n + 1)))) :
    wpList P ops Q (o :: rest) a (w.alloc (.map es n)) := by
  refine wpList_plain hg fun K' hK' => ?_
  have hrun := run_insert_new ht hk w es n key val hf
  unfold Oper.wp
  simp [execOp, hop, hm, hx, hv, hrun, Result.andThen]
  exact hK' _ _ hK

theorem run_lookup_found {t k e : TypeId} {q : IntKind} (ht : P.underlying t = some (.map k e)) (hk : P.underlying k = some (.int q)) {w : World} {b n : Nat} {es : Array MapEntry} (hb : w.heap[b]? = some (.map es n))
    {z : Value} (hz : (zeroValue e).run P w = .ok z w) (x : Int) (f : Option (Nat × Value)) (hf : Instr.findNow (.int q) (.int q x) es.toList 0 = some f) :
    (Instr.lookup t (.map (some b)) (.int q x) false).run P w = .ok ((f.map (·.2)).getD z) w := by
  have hc : ∀ g, (Instr.checkKey g 10000 k (.int q x)).run P w = .ok () w := fun g => by
    unfold Instr.checkKey
    simp only [Sem.run_bind, run_underlying hk, Result.andThen]
    rfl
  have hfk : (Instr.findKey k (.int q x) es.toList).run P w = .ok f w := by
    simp [Instr.findKey, run_underlying hk, hf]
  cases f <;> simp [Instr.lookup, run_underlying ht, MapKept.run_getObj_map hb, hc, hfk, hz, Result.andThen]
end

/-- The codes, their kinds and their names' bytes, in the text's order. -/
def codes : List (Int × Int × List UInt8) := [
  (32, 1, [108, 100]),
  (128, 2, [108, 100, 108, 101, 110]),
  (0, 3, [108, 100, 105]),
  (96, 4, [108, 100, 109]),
  (1, 5, [108, 100, 120, 105]),
  (97, 6, [108, 100, 120, 109]),
  (129, 7, [108, 100, 120, 108, 101, 110]),
  (2, 8, [115, 116]),
  (3, 9, [115, 116, 120]),
  (4, 10, [97, 100, 100]),
  (20, 10, [115, 117, 98]),
  (36, 10, [109, 117, 108]),
  (52, 10, [100, 105, 118]),
  (68, 10, [111, 114]),
  (84, 10, [97, 110, 100]),
  (100, 10, [108, 115, 104]),
  (116, 10, [114, 115, 104]),
  (164, 10, [120, 111, 114]),
  (12, 10, [97, 100, 100, 120]),
  (28, 10, [115, 117, 98, 120]),
  (44, 10, [109, 117, 108, 120]),
  (60, 10, [100, 105, 118, 120]),
  (76, 10, [111, 114, 120]),
  (92, 10, [97, 110, 100, 120]),
  (108, 10, [108, 115, 104, 120]),
  (124, 10, [114, 115, 104, 120]),
  (172, 10, [120, 111, 114, 120]),
  (132, 10, [110, 101, 103]),
  (5, 11, [106, 97]),
  (21, 12, [106, 101, 113]),
  (37, 12, [106, 103, 116]),
  (53, 12, [106, 103, 101]),
  (69, 12, [106, 115, 101, 116]),
  (29, 12, [106, 101, 113, 120]),
  (45, 12, [106, 103, 116, 120]),
  (61, 12, [106, 103, 101, 120]),
  (77, 12, [106, 115, 101, 116, 120]),
  (6, 13, [114, 101, 116]),
  (22, 14, [114, 101, 116, 97]),
  (7, 15, [116, 97, 120]),
  (135, 16, [116, 120, 97])]
def entryV (p : Int × Int × List UInt8) : Value := .agg #[.int .i64 p.2.1, .string ⟨p.2.2.toArray⟩]
def entries : List (Int × Int × List UInt8) → Nat → List MapEntry
  | [], _ => []
  | p :: r, n => { key := .int .u16 p.1, val := entryV p, born := n } :: entries r (n + 1)

set_option maxHeartbeats 4000000 in
set_option maxRecDepth 100000 in
theorem table_calls (w : World) : Calls Try.prog 103 #[] w fun e w' => e = .returned (.map (some w.heap.size)) ∧ w' = w.alloc (.map (entries codes 0).toArray 41) := by
  have hmm := @run_makeMap Try.prog
  go_enter Try.func103, Try.ntmps103
  go_wp2_with (rw [run_insert_new u153 u35 _ _ _ _ _ (by rfl)])
  go_ret
  exact ⟨rfl, rfl⟩

end Go.Proofs.Ytmjpibeiglicdaa.Code
