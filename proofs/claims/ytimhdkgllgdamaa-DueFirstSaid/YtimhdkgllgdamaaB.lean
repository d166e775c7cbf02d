/- A map[int]bool of the call's own as a set of numbers; the walk of Right. -/
import Derived.Test.YtimhdkgllgdamaaA
import Derived.Test.YtimhdkgllgdamaaLibD
import Derived.Maps.OwnSet
import Derived.Maps.Views
namespace Go.Proofs.Ytimhdkgllgdamaa
open Go.RowKit Go.Lib

set_option linter.unusedVariables false
/-- A map[int]bool of the call's own, as the numbers that are in it. -/
def Seen (w : World) (b n : Nat) (ks : List Int) : Prop :=
  ∃ D : DataW Unit, w.ownsMap Try.prog 3 (plainElem Try.prog 4) b n D ∧ ∀ x : Int, D.atKey (.int .i64 x) (.lit (.bool false)) = .lit (.bool (decide (x ∈ ks)))
theorem kint : Maps.Keyed Try.prog 3 := Maps.int_keyed Try.underlying3
theorem zero4 (w : World) : (zeroValue 4).run Try.prog w = .ok (.bool false) w := by kernel_rfl
theorem Seen.made (w : World) : Seen (w.alloc (.map #[] 0)) w.heap.size 0 [] := ⟨.map [], World.ownsMap_made w _ _ _, fun x => rfl⟩
theorem Seen.lt {w : World} {b n : Nat} {ks : List Int} (h : Seen w b n ks) : b < w.heap.size := by
  obtain ⟨D, h1, _⟩ := h
  exact h1.lt
theorem Seen.below {w w' : World} {b n : Nat} {ks : List Int} (h : Seen w b n ks) (hb : Below w.heap.size w w') : Seen w' b n ks := by
  obtain ⟨D, h1, h2⟩ := h
  exact ⟨D, h1.kept (row := none) ⟨hb.os, hb.tape, hb.output, hb.size, fun i hi _ => hb.block i hi⟩ (by simp), h2⟩
theorem Seen.lookup {w : World} {b n : Nat} {ks : List Int} (h : Seen w b n ks) {x : Int} (hx : (Lit.int .i64 x).wf = true) : (Instr.lookup 57 (.map (some b)) (.int .i64 x) false).run Try.prog w = .ok (.bool (decide (x ∈ ks))) w := by
  obtain ⟨D, h1, h2⟩ := h
  obtain ⟨v, ps, hrun, hv⟩ := h1.lookup (t := 57) kint Try.underlying57 (zero4 w) (plainElem_bool Try.underlying4 false) (Maps.keyOf_int_mk Try.underlying3 hx)
  rw [h2 x] at hv
  rw [hrun]
  unfold plainElem at hv
  rw [Try.underlying4] at hv
  cases v <;> simp at hv
  rw [hv.1]
theorem wf_int {x : Int} (h0 : -9223372036854775808 ≤ x) (h1 : x ≤ 9223372036854775807) : (Lit.int .i64 x).wf = true := by
  simp [Lit.wf, IntKind.min, IntKind.max, IntKind.signed, IntKind.bits]
  omega
theorem Seen.update {w : World} {b n : Nat} {ks : List Int} (h : Seen w b n ks) {x : Int} (hx : (Lit.int .i64 x).wf = true) (hn : n < maxLen) :
    ∃ w', (Instr.mapUpdate 57 (.map (some b)) (.int .i64 x) (.bool true)).run Try.prog w = .ok () w' ∧ Seen w' b (n + 1) (x :: ks) ∧ w.grownBy w' (some b) := by
  obtain ⟨D, h1, h2⟩ := h
  obtain ⟨w', hrun, h3, h4⟩ := h1.update (t := 57) kint Try.underlying57 hn (Maps.keyOf_int_mk Try.underlying3 hx) (plainElem_bool (H := Unit) Try.underlying4 true)
  refine ⟨w', hrun, ⟨_, h3, fun y => ?_⟩, h4⟩
  by_cases e : y = x
  · subst e
    rw [Maps.atKey_put_same h1.isMap (show WideAt.IsKeyLit (.int .i64 y) from trivial)]
    simp
  · rw [Maps.atKey_put_other (by simpa using e), h2 y]
    simp [e]
end Go.Proofs.Ytimhdkgllgdamaa
