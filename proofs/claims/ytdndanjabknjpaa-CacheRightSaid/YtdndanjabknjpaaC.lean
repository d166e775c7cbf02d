/- The plain law of a cache that is right. -/
import Derived.Test.YtdndanjabknjpaaB
namespace Go.Proofs.Ytdndanjabknjpaa
open Go.RowKit Go.Lib
set_option linter.unusedVariables false

/-- One line stands where it may. -/
def okLine (x : Ca) (s : Nat) (y : Ln) : Prop := 0 ≤ y.addr ∧ y.addr.tmod x.sets = (s : Int) ∧ 1 ≤ y.state ∧ y.state ≤ 4 ∧ 1 ≤ y.used ∧ y.used ≤ x.clock
instance (x : Ca) (s : Nat) (y : Ln) : Decidable (okLine x s y) := by unfold okLine; infer_instance
def okSet (x : Ca) (s : Nat) : Prop := (x.lines[s]!.length : Int) ≤ x.ways ∧ ∀ i, i < x.lines[s]!.length → okLine x s x.lines[s]![i]!
instance (x : Ca) (s : Nat) : Decidable (okSet x s) := by unfold okSet; infer_instance
structure RightC (x : Ca) : Prop where
  formed : formedB x = true
  sets : ∀ s, s < x.lines.length → okSet x s
  addrs : (x.lines.flatten.map Ln.addr).Nodup
  uses : (x.lines.flatten.map Ln.used).Nodup
theorem RightC.iff {x : Ca} : RightC x ↔ (formedB x = true ∧ (∀ s, s < x.lines.length → okSet x s) ∧ (x.lines.flatten.map Ln.addr).Nodup ∧ (x.lines.flatten.map Ln.used).Nodup) :=
  ⟨fun h => ⟨h.formed, h.sets, h.addrs, h.uses⟩, fun h => ⟨h.1, h.2.1, h.2.2.1, h.2.2.2⟩⟩
instance (x : Ca) : Decidable (RightC x) := decidable_of_iff _ RightC.iff.symm
def rightC (x : Ca) : Bool := decide (RightC x)
/-- What stands ahead of a line, and it. -/
def upC (x : Ca) (s i : Nat) : List Ln := (x.lines.take s).flatten ++ x.lines[s]!.take i
theorem upC_zero (x : Ca) (s : Nat) : upC x s 0 = (x.lines.take s).flatten := by unfold upC; simp
theorem lineAt (l : List Ln) {i : Nat} (hi : i < l.length) : l.take (i + 1) = l.take i ++ [l[i]!] := by
  rw [getElem!_pos l i hi, List.take_append_getElem]
theorem upC_succ {x : Ca} {s i : Nat} (hi : i < x.lines[s]!.length) : upC x s (i + 1) = upC x s i ++ [x.lines[s]![i]!] := by
  unfold upC
  rw [lineAt _ hi, List.append_assoc]
theorem upC_all {x : Ca} {s : Nat} (hs : s < x.lines.length) : upC x s x.lines[s]!.length = (x.lines.take (s + 1)).flatten := by
  unfold upC
  rw [List.take_of_length_le (Nat.le_refl _), getElem!_pos x.lines s hs, ← List.take_append_getElem hs, List.flatten_append]
  simp
theorem upC_sub {x : Ca} {s i : Nat} (hs : s < x.lines.length) : (upC x s i).Sublist x.lines.flatten := by
  have h1 : (upC x s i).Sublist (upC x s x.lines[s]!.length) := by
    unfold upC
    refine List.Sublist.append (List.Sublist.refl _) ?_
    rw [List.take_of_length_le (Nat.le_refl _)]
    exact List.take_sublist _ _
  rw [upC_all hs] at h1
  refine h1.trans ?_
  have : x.lines.flatten = (x.lines.take (s + 1)).flatten ++ (x.lines.drop (s + 1)).flatten := by rw [← List.flatten_append, List.take_append_drop]
  rw [this]
  exact List.sublist_append_left _ _
/-- So far all is right. -/
structure SoFar (x : Ca) (s i : Nat) : Prop where
  before : ∀ t, t < s → okSet x t
  here : ∀ j, j < i → okLine x s x.lines[s]![j]!
  addrs : ((upC x s i).map Ln.addr).Nodup
  uses : ((upC x s i).map Ln.used).Nodup
theorem SoFar.start (x : Ca) : SoFar x 0 0 := ⟨fun t h => absurd h (Nat.not_lt_zero _), fun j h => absurd h (Nat.not_lt_zero _), by rw [upC_zero]; simp, by rw [upC_zero]; simp⟩
theorem SoFar.next {x : Ca} {s i : Nat} (h : SoFar x s i) (hi : i < x.lines[s]!.length) (h1 : okLine x s x.lines[s]![i]!) (h2 : x.lines[s]![i]!.addr ∉ (upC x s i).map Ln.addr) (h3 : x.lines[s]![i]!.used ∉ (upC x s i).map Ln.used) : SoFar x s (i + 1) := by
  refine ⟨h.before, fun j hj => ?_, ?_, ?_⟩
  · by_cases e : j = i
    · subst e; exact h1
    · exact h.here j (by omega)
  · rw [upC_succ hi, List.map_append, List.nodup_append]
    refine ⟨h.addrs, by simp, fun a ha b hb e => ?_⟩
    simp only [List.map_cons, List.map_nil, List.mem_singleton] at hb
    subst hb; subst e
    exact h2 ha
  · rw [upC_succ hi, List.map_append, List.nodup_append]
    refine ⟨h.uses, by simp, fun a ha b hb e => ?_⟩
    simp only [List.map_cons, List.map_nil, List.mem_singleton] at hb
    subst hb; subst e
    exact h3 ha
theorem SoFar.set {x : Ca} {s : Nat} (h : SoFar x s x.lines[s]!.length) (hs : s < x.lines.length) (hw : (x.lines[s]!.length : Int) ≤ x.ways) : SoFar x (s + 1) 0 := by
  refine ⟨fun t ht => ?_, fun j hj => absurd hj (Nat.not_lt_zero _), ?_, ?_⟩
  · by_cases e : t = s
    · subst e; exact ⟨hw, h.here⟩
    · exact h.before t (by omega)
  · rw [upC_zero, ← upC_all hs]; exact h.addrs
  · rw [upC_zero, ← upC_all hs]; exact h.uses
theorem SoFar.right {x : Ca} {s : Nat} (h : SoFar x s 0) (hs : s = x.lines.length) (hf : formedB x = true) : rightC x = true := by
  subst hs
  have e : upC x x.lines.length 0 = x.lines.flatten := by rw [upC_zero, List.take_of_length_le (Nat.le_refl _)]
  refine decide_eq_true ⟨hf, h.before, ?_, ?_⟩
  · rw [← e]; exact h.addrs
  · rw [← e]; exact h.uses
theorem bad_formed {x : Ca} (h : formedB x = false) : rightC x = false := decide_eq_false fun hr => by rw [hr.formed] at h; cases h
theorem bad_ways {x : Ca} {s : Nat} (hs : s < x.lines.length) (h : ¬ (x.lines[s]!.length : Int) ≤ x.ways) : rightC x = false := decide_eq_false fun hr => h (hr.sets s hs).1
theorem bad_line {x : Ca} {s i : Nat} (hs : s < x.lines.length) (hi : i < x.lines[s]!.length) (h : ¬ okLine x s x.lines[s]![i]!) : rightC x = false := decide_eq_false fun hr => h ((hr.sets s hs).2 i hi)
theorem bad_addr {x : Ca} {s i : Nat} (hs : s < x.lines.length) (hi : i < x.lines[s]!.length) (h : x.lines[s]![i]!.addr ∈ (upC x s i).map Ln.addr) : rightC x = false := decide_eq_false fun hr => by
  have := (upC_sub (i := i + 1) hs).map Ln.addr |>.nodup hr.addrs
  rw [upC_succ hi, List.map_append, List.nodup_append] at this
  exact this.2.2 _ h _ (by simp) rfl
theorem bad_used {x : Ca} {s i : Nat} (hs : s < x.lines.length) (hi : i < x.lines[s]!.length) (h : x.lines[s]![i]!.used ∈ (upC x s i).map Ln.used) : rightC x = false := decide_eq_false fun hr => by
  have := (upC_sub (i := i + 1) hs).map Ln.used |>.nodup hr.uses
  rw [upC_succ hi, List.map_append, List.nodup_append] at this
  exact this.2.2 _ h _ (by simp) rfl
theorem upC_len {x : Ca} (hw : x.ways ≤ 8) : ∀ s i, s ≤ x.lines.length → (∀ t, t < s → okSet x t) → i ≤ 8 → (upC x s i).length ≤ 8 * s + 8 := by
  intro s i hs h hi
  have h1 : ∀ s, s ≤ x.lines.length → (∀ t, t < s → okSet x t) → ((x.lines.take s).flatten).length ≤ 8 * s := by
    intro s
    induction s with
    | zero => intro _ _; simp
    | succ s ih =>
      intro h1 h2
      have := ih (by omega) (fun t ht => h2 t (by omega))
      rw [← upC_all (show s < x.lines.length by omega)]
      unfold upC
      rw [List.length_append, List.take_of_length_le (Nat.le_refl _)]
      have := (h2 s (by omega)).1
      omega
  have := h1 s hs h
  unfold upC
  rw [List.length_append, List.length_take]
  omega
end Go.Proofs.Ytdndanjabknjpaa
