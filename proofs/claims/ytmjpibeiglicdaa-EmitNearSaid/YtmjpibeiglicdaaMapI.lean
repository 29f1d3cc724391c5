/- Maps from whole numbers to whole numbers that a call makes: what they hold, key by key. -/
import Derived.Test.YtmjpibeiglicdaaProg
import Derived.Maps.OwnSet
import Derived.Maps.Views
import Derived.WalkKit
namespace Go.Proofs.Ytmjpibeiglicdaa.MapI
set_option linter.unusedVariables false
open Go.Maps

theorem law3 : Keyed Try.prog 3 := int_keyed Try.underlying3
theorem zero3 (w : World) : (zeroValue 3).run Try.prog w = .ok (.int .i64 0) w := by kernel_rfl
def wf (k : Int) : Prop := (Lit.int .i64 k).wf = true
/-- Block b is a map of at most n entries that holds what m tells. -/
def Is (w : World) (b n : Nat) (m : Int → Option Int) : Prop :=
  ∃ D : DataW Unit, w.ownsMap Try.prog 3 (plainElem Try.prog 3) b n D ∧ ∀ k, wf k → D.atKey (.int .i64 k) (.lit (.int .i64 0)) = .lit (.int .i64 ((m k).getD 0)) ∧ Maps.has D (.int .i64 k) = (m k).isSome
def upd (m : Int → Option Int) (x v : Int) : Int → Option Int := fun k => if k = x then some v else m k
theorem made (w : World) : Is (w.alloc (.map #[] 0)) w.heap.size 0 (fun _ => none) := ⟨.map [], World.ownsMap_made _ _ _ _, fun k _ => ⟨rfl, rfl⟩⟩
theorem Is.kept {w w' : World} {b n : Nat} {m : Int → Option Int} {row : Option Nat} (h : Is w b n m) (hg : w.grownBy w' row) (hne : some b ≠ row) : Is w' b n m := by
  obtain ⟨D, ho, hD⟩ := h
  exact ⟨D, ho.kept hg hne, hD⟩
theorem Is.setCell {w : World} {b n : Nat} {m : Int → Option Int} (h : Is w b n m) {a : Addr} (ha : b ≠ a.block) (u : Value) : Is (w.setCell a u) b n m := by
  obtain ⟨D, ho, hD⟩ := h
  exact ⟨D, ho.setCell ha u, hD⟩
theorem Is.same {w w' : World} {b n : Nat} {m : Int → Option Int} (h : Is w b n m) (hb : w'.heap[b]? = w.heap[b]?) : Is w' b n m := by
  obtain ⟨D, ⟨es, clock, h1, h2⟩, hD⟩ := h
  exact ⟨D, ⟨es, clock, hb.trans h1, h2⟩, hD⟩
theorem Is.blk {w : World} {b n : Nat} {m : Int → Option Int} (h : Is w b n m) : ∃ es clock, w.heap[b]? = some (.map es clock) := by
  obtain ⟨D, ⟨es, clock, h1, h2⟩, hD⟩ := h
  exact ⟨es, clock, h1⟩
theorem Is.mono {w : World} {b n n' : Nat} {m : Int → Option Int} (h : Is w b n m) (hn : n ≤ n') : Is w b n' m := by
  obtain ⟨D, ⟨es, clock, h1, h2, h3, h4⟩, hD⟩ := h
  exact ⟨D, ⟨es, clock, h1, h2, Nat.le_trans h3 hn, h4⟩, hD⟩
section
variable {w : World} {ops : Array Oper} {rest : List Oper} {o : Oper} {a : Act} {Q : Exit → Act → World → Prop} {b n : Nat} {m : Int → Option Int}
theorem wp_set (hg : o.guard = none) (M x v : Operand) (hop : o.op = Op.mapUpdate 130 M x v) (hM : a.eval M = .map (some b)) (h : Is w b n m) (hn : n < maxLen) (k y : Int) (hx : a.eval x = .int .i64 k) (hv : a.eval v = .int .i64 y) (wk : wf k) (wy : wf y)
    (hK : ∀ w', Is w' b (n + 1) (upd m k y) → w.grownBy w' (some b) → wpList Try.prog ops Q rest (a.put o.dst undef) w') : wpList Try.prog ops Q (o :: rest) a w := by
  obtain ⟨D, ho, hD⟩ := h
  have hI : IsMap D := ho.isMap
  refine wpList_mapUpdate_own w hg M x v 130 hop 3 3 law3 Try.underlying130 _ b n D hM ho hn _ _ _ hx hv (keyOf_int_mk Try.underlying3 wk) _ [] (plainElem_int Try.underlying3 wy) ?_
  intro w' ho' hg'
  refine hK w' ⟨_, ho', fun z wz => ?_⟩ hg'
  unfold upd
  by_cases e : z = k
  · subst e
    rw [if_pos rfl]
    have hk := law3.key (keyOf_int_mk Try.underlying3 wk)
    exact ⟨atKey_put_same hI hk _ _, has_put_same hI hk _⟩
  · rw [if_neg e]
    have hne : (Lit.int .i64 z) ≠ .int .i64 k := fun h => e (by injection h)
    rw [atKey_put_other hne, has_put_other hne]
    exact hD z wz
theorem wp_get (hg : o.guard = none) (M x : Operand) (hop : o.op = Op.lookup 130 M x false) (hM : a.eval M = .map (some b)) (h : Is w b n m) (k : Int) (hx : a.eval x = .int .i64 k) (wk : wf k)
    (hK : wpList Try.prog ops Q rest (a.put o.dst (.int .i64 ((m k).getD 0))) w) : wpList Try.prog ops Q (o :: rest) a w := by
  obtain ⟨D, ho, hD⟩ := h
  refine wpList_lookup_own_int w hg M x 130 hop 3 3 .i64 law3 Try.underlying130 Try.underlying3 (zero3 _) b n D hM ho _ _ hx (keyOf_int_mk Try.underlying3 wk) ?_
  intro c hat _
  rw [(hD k wk).1] at hat
  injection hat with hat
  injection hat with _ hat
  rw [← hat]; exact hK
theorem wp_get_ok (hg : o.guard = none) (M x : Operand) (hop : o.op = Op.lookup 130 M x true) (hM : a.eval M = .map (some b)) (h : Is w b n m) (k : Int) (hx : a.eval x = .int .i64 k) (wk : wf k)
    (hK : wpList Try.prog ops Q rest (a.put o.dst (.tuple #[.int .i64 ((m k).getD 0), .bool (m k).isSome])) w) : wpList Try.prog ops Q (o :: rest) a w := by
  obtain ⟨D, ho, hD⟩ := h
  refine wpList_lookup_own_ok_int w hg M x 130 hop 3 3 .i64 law3 Try.underlying130 Try.underlying3 (zero3 _) b n D hM ho _ _ hx (keyOf_int_mk Try.underlying3 wk) ?_
  intro c hat _
  rw [(hD k wk).1] at hat
  injection hat with hat
  injection hat with _ hat
  rw [← hat, (hD k wk).2]; exact hK
end
set_option maxRecDepth 100000 in
/-- The run of a look-up, for what draws its order. -/
theorem Is.run {w : World} {b n : Nat} {m : Int → Option Int} (h : Is w b n m) (k : Int) (wk : wf k) : (Instr.lookup 130 (.map (some b)) (.int .i64 k) false).run Try.prog w = .ok (.int .i64 ((m k).getD 0)) w := by
  obtain ⟨D, ho, hD⟩ := h
  obtain ⟨c, hrun, hat, _⟩ := ho.lookup_int law3 Try.underlying130 Try.underlying3 (zero3 _) (keyOf_int_mk Try.underlying3 wk)
  rw [(hD k wk).1] at hat
  injection hat with hat
  injection hat with _ hat
  rw [← hat] at hrun
  exact hrun
end Go.Proofs.Ytmjpibeiglicdaa.MapI
