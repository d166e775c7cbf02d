/- A line of a cache of the call's own is turned; the walk of used. -/
import Derived.Test.YtdndanjabknjpaaG
namespace Go.Proofs.Ytdndanjabknjpaa
open Go.RowKit Go.Lib
set_option linter.unusedVariables false

theorem setGet {α : Type} [Inhabited α] (l : List α) (i : Nat) (x : α) (k : Nat) : (l.set i x)[k]! = if i = k ∧ k < l.length then x else l[k]! := by
  by_cases hk : k < l.length
  · rw [getElem!_pos (l.set i x) k (by simpa using hk), List.getElem_set, getElem!_pos l k hk]
    by_cases h : i = k
    · simp [h, hk]
    · simp [h]
  · rw [getElem!_neg (l.set i x) k (by simpa using hk), getElem!_neg l k hk, if_neg (fun h => hk h.2)]
/-- The header of one set of a cache of the call's own. -/
theorem OwnC.at_ {w : World} {base n s : Nat} {V : Value} {ls : List (List Ln)} {hs : List Hd} (h : OwnC w base V n ls hs) (hsn : s < n) (h0 : 0 < ls[s]!.length) : ∃ b m c, hs[s]! = ⟨some ⟨b, 0, none⟩, m, c⟩ ∧ ls[s]!.length = m ∧ m ≤ c ∧ base ≤ b ∧ b < w.heap.size ∧ w.ownsRow base 32 4 (.slice (some ⟨b, 0, none⟩) m c) m (ls[s]!.flatMap Ln.enc) := by
  obtain ⟨h1, h2⟩ := h.inner s hsn
  generalize hs[s]! = hd at *
  obtain ⟨A, m, c⟩ := hd
  have h3 : w.ownsRow base 32 4 (.slice A m c) m (ls[s]!.flatMap Ln.enc) := h2
  have h1' : m = ls[s]!.length := h1
  rcases own_form h3 with ⟨_, e, _⟩ | ⟨G, rfl⟩
  · omega
  · obtain ⟨g1, g2⟩ := h3.lt G rfl
    exact ⟨G, m, c, rfl, h1'.symm, (own_cap h3).1, g1, g2, h3⟩
/-- A cell of a line is set. -/
theorem OwnC.line {w : World} {base n s k r b m c : Nat} {V : Value} {ls : List (List Ln)} {hs : List Hd} (h : OwnC w base V n ls hs) (hsn : s < n) (hk : k < ls[s]!.length) (hr : r < 4) (e : hs[s]! = ⟨some ⟨b, 0, none⟩, m, c⟩) (u : Value) (y : Ln) (hy : Ln.enc y = (Ln.enc ls[s]![k]!).set r u) :
    OwnC (w.setCell ⟨b, k * 4 + r, none⟩ u) base V n (ls.set s (ls[s]!.set k y)) hs := by
  have hg := grown_set (j := k * 4 + r) (World.grownBy.refl w (some b)) u
  have hi := h.inner s hsn
  rw [e] at hi
  have h3 : w.ownsRow base 32 4 (.slice (some ⟨b, 0, none⟩) m c) m (ls[s]!.flatMap Ln.enc) := hi.2
  have hm : m = ls[s]!.length := hi.1
  have hls : s < ls.length := by rw [h.num]; exact hsn
  refine ⟨h.outer.kept hg (own_two h.outer h3 (by decide)), by rw [List.length_set]; exact h.num, h.len, fun j hj => ?_, h.apart⟩
  rw [setGet]
  by_cases hjs : s = j
  · subst hjs
    rw [if_pos ⟨rfl, hls⟩, e]
    refine ⟨by rw [List.length_set]; exact hm, ?_⟩
    have := own_set h3 (k * 4 + r) u
    rw [flat_set Ln.enc_len ls[s]! k r y u hk hr hy] at this
    exact this
  · rw [if_neg (fun hh => hjs hh.1)]
    obtain ⟨a1, a2⟩ := h.inner j hj
    refine ⟨a1, a2.kept hg ?_⟩
    have hap : Apart hs[j]!.val hs[s]!.val := by
      rcases Nat.lt_or_gt_of_ne hjs with h1 | h1
      · exact (h.apart s j h1 hj).symm
      · exact h.apart j s h1 hsn
    rw [e] at hap
    cases hv : hs[j]!.val.ownBlock with
    | none => exact .inl rfl
    | some g =>
      right
      intro e2
      exact hap g hv (show some b = some g from e2.symm)

set_option maxHeartbeats 4000000 in
theorem used_any (X b off : Nat) (clk : Int) (v : Value) (w : World) (hc : w.cell? ⟨X, 2, none⟩ = some (.int .i64 clk)) (hf : w.frozen? ⟨X, 2, none⟩ = false) (hc2 : w.cell? ⟨b, off + 3, none⟩ = some v) (hf2 : w.frozen? ⟨b, off + 3, none⟩ = false) (hne : X ≠ b) (h0 : 0 ≤ clk) (h1 : clk < 1099511627776) :
    Calls Try.prog 28 #[.pointer (some ⟨X, 0, none⟩), .pointer (some ⟨b, off, none⟩)] w fun e w' => e = .returned (.tuple #[]) ∧ w' = (w.setCell ⟨X, 2, none⟩ (.int .i64 (clk + 1))).setCell ⟨b, off + 3, none⟩ (.int .i64 (clk + 1)) := by
  have hw : IntKind.i64.wrap (clk + 1) = clk + 1 := IntWalk.i64_in _ (by omega)
  have hw2 : wrap64 (clk + 1) = clk + 1 := by unfold wrap64; omega
  have hne2 : b ≠ X := Ne.symm hne
  go_enter Try.func28, Try.ntmps28
  go_wp2_with fail
  go_end0
  exact ⟨rfl, rfl⟩
end Go.Proofs.Ytdndanjabknjpaa
