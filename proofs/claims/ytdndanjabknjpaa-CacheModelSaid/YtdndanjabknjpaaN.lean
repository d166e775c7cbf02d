/- The plain law of the line that is pushed out. -/
import Derived.Test.YtdndanjabknjpaaM
namespace Go.Proofs.Ytdndanjabknjpaa
open Go.RowKit Go.Lib
set_option linter.unusedVariables false

theorem fold_min (l : List Ln) : ∀ m, (l.foldl minStep m) = m ∨ l.foldl minStep m ∈ l := by
  induction l with
  | nil => intro m; exact .inl rfl
  | cons y l ih =>
    intro m
    rw [List.foldl_cons]
    rcases ih (minStep m y) with h | h
    · rw [h]
      unfold minStep
      split
      · exact .inr List.mem_cons_self
      · exact .inl rfl
    · exact .inr (List.mem_cons_of_mem _ h)
theorem fold_le (l : List Ln) : ∀ m, (l.foldl minStep m).used ≤ m.used ∧ ∀ y ∈ l, (l.foldl minStep m).used ≤ y.used := by
  induction l with
  | nil => intro m; exact ⟨Int.le_refl _, fun y hy => by cases hy⟩
  | cons y l ih =>
    intro m
    rw [List.foldl_cons]
    obtain ⟨h1, h2⟩ := ih (minStep m y)
    have h3 : (minStep m y).used ≤ m.used ∧ (minStep m y).used ≤ y.used := by
      unfold minStep
      split <;> omega
    refine ⟨by omega, fun z hz => ?_⟩
    rcases List.mem_cons.1 hz with rfl | hz
    · omega
    · exact h2 z hz
/-- The least is of the list, and none is less. -/
theorem minD_mem {l : List Ln} (h : 0 < l.length) : minD l ∈ l := by
  cases l with
  | nil => simp at h
  | cons a l =>
    have e : minD (a :: l) = l.foldl minStep a := rfl
    rw [e]
    rcases fold_min l a with h | h
    · rw [h]; exact List.mem_cons_self
    · exact List.mem_cons_of_mem _ h
theorem minD_le {l : List Ln} {y : Ln} (hy : y ∈ l) : (minD l).used ≤ y.used := by
  cases l with
  | nil => cases hy
  | cons a l =>
    have e : minD (a :: l) = l.foldl minStep a := rfl
    rw [e]
    obtain ⟨h1, h2⟩ := fold_le l a
    rcases List.mem_cons.1 hy with rfl | hy
    · exact h1
    · exact h2 y hy
end Go.Proofs.Ytdndanjabknjpaa
