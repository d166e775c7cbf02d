/- The plain law of lists of what is due: right, what is left, where one is, what comes. -/
import Derived.Test.YtimhdkgllgdamaaC
import Derived.Test.YtimhdkgllgdamaaG
namespace Go.Proofs.Ytimhdkgllgdamaa
open Go.RowKit Go.Lib D
set_option linter.unusedVariables false

theorem lessD_trans {a b c : Du} (h : lessD a b = true) (h2 : lessD b c = true) : lessD a c = true := by
  simp only [lessD, decide_eq_true_eq] at *
  omega
theorem right_iff {l : List Du} : rightD l = true ↔ l.length ≤ 64 ∧ ∀ j, j < l.length → okD l j := by simp only [rightD, decide_eq_true_eq]
theorem right_len {l : List Du} (h : rightD l = true) : l.length ≤ 64 := (right_iff.1 h).1
theorem right_less {l : List Du} (h : rightD l = true) : ∀ j, j < l.length → ∀ i, i < j → lessD l[i]! l[j]! = true := by
  have hh := (right_iff.1 h).2
  intro j
  induction j with
  | zero => intro _ i hi; exact absurd hi (Nat.not_lt_zero _)
  | succ j ih =>
    intro hj i hi
    have h1 := (hh (j + 1) hj).2.2 (Nat.succ_pos _)
    rw [Nat.add_sub_cancel] at h1
    by_cases e : i = j
    · subst e; exact h1
    · exact lessD_trans (ih (by omega) i (by omega)) h1
theorem right_sorted {l : List Du} (h : rightD l = true) : l.Pairwise LeD := by
  rw [List.pairwise_iff_getElem]
  intro i j hi hj hij
  have := right_less h j hj i hij
  rw [getElem!_pos l i hi, getElem!_pos l j hj] at this
  exact LeD.of_less this
theorem right_unlike {l : List Du} (h : rightD l = true) {i j : Nat} (hi : i < l.length) (hj : j < l.length) (e : l[i]!.which = l[j]!.which) : i = j := by
  have hh := (right_iff.1 h).2
  rcases Nat.lt_trichotomy i j with h1 | h1 | h1
  · exact absurd e ((hh j hj).2.1 i h1)
  · exact h1
  · exact absurd e.symm ((hh i hi).2.1 j h1)
theorem right_may {l : List Du} (h : rightD l = true) {i : Nat} (hi : i < l.length) : mayD l[i]! = true := ((right_iff.1 h).2 i hi).1
/-- All but one. -/
def restD (l : List Du) (t : Int) : List Du := l.filter (fun x => !decide (x.which = t))
theorem getMem {l : List Du} {i : Nat} (hi : i < l.length) : l[i]! ∈ l := by rw [getElem!_pos l i hi]; exact List.getElem_mem _
theorem memGet {l : List Du} {x : Du} (h : x ∈ l) : ∃ i, i < l.length ∧ l[i]! = x := by
  obtain ⟨i, hi, e⟩ := List.getElem_of_mem h
  exact ⟨i, hi, by rw [getElem!_pos l i hi]; exact e⟩
theorem rest_miss {l : List Du} {t : Int} (h : ∀ j, j < l.length → decide (l[j]!.which = t) = false) : restD l t = l := by
  unfold restD
  rw [List.filter_eq_self]
  intro x hx
  obtain ⟨i, hi, rfl⟩ := memGet hx
  rw [h i hi]; rfl
theorem rest_hit {l : List Du} {t : Int} {k : Nat} (hr : rightD l = true) (hk : k < l.length) (e : l[k]!.which = t) : restD l t = l.eraseIdx k := by
  have hl : l = l.take k ++ (l[k]! :: l.drop (k + 1)) := by
    rw [getElem!_pos l k hk, List.getElem_cons_drop, List.take_append_drop]
  have h1 : (l.take k).filter (fun x => !decide (x.which = t)) = l.take k := by
    rw [List.filter_eq_self]
    intro x hx
    obtain ⟨i, hi, rfl⟩ := memGet hx
    rw [List.length_take] at hi
    have := takeAt l k i (by omega) (by omega)
    rw [this]
    simp only [Bool.not_eq_true', decide_eq_false_iff_not]
    intro e2
    have := right_unlike hr (by omega) hk (e2.trans e.symm)
    omega
  have h2 : (l.drop (k + 1)).filter (fun x => !decide (x.which = t)) = l.drop (k + 1) := by
    rw [List.filter_eq_self]
    intro x hx
    obtain ⟨i, hi, rfl⟩ := memGet hx
    rw [List.length_drop] at hi
    have : (l.drop (k + 1))[i]! = l[k + 1 + i]! := by
      rw [getElem!_pos (l.drop (k + 1)) i (by rw [List.length_drop]; omega), List.getElem_drop, getElem!_pos l (k + 1 + i) (by omega)]
    rw [this]
    simp only [Bool.not_eq_true', decide_eq_false_iff_not]
    intro e2
    have := right_unlike hr (by omega) hk (e2.trans e.symm)
    omega
  have h3 : restD l t = l.take k ++ l.drop (k + 1) := by
    unfold restD
    conv => lhs; rw [hl]
    rw [List.filter_append, List.filter_cons, h1, h2, e]
    simp
  rw [h3, List.eraseIdx_eq_take_drop_succ]
theorem place_cases (l : List Du) (t : Int) : (placeD l t = -1 ∧ ∀ j, j < l.length → decide (l[j]!.which = t) = false) ∨ ∃ k, k < l.length ∧ placeD l t = (k : Int) ∧ l[k]!.which = t := by
  rcases first_hit (fun x : Du => decide (x.which = t)) l with h | ⟨k, h1, h2, h3⟩
  · left
    refine ⟨?_, h⟩
    have := Lib.idxBy_miss (fun _ y => decide (y.which = t)) l l.length (default : Du) h
    rw [List.take_length] at this
    exact this
  · right
    refine ⟨k, h1, ?_, by simpa using h2⟩
    have := Lib.idxBy_hit (fun _ y => decide (y.which = t)) l l.length k (default : Du) h1 (Nat.le_refl _) h2 h3
    rw [List.take_length] at this
    exact this
theorem perm_erase {l : List Du} {k : Nat} (hk : k < l.length) : l.Perm (l[k]! :: l.eraseIdx k) := by
  rw [List.eraseIdx_eq_take_drop_succ]
  have := List.perm_middle (a := l[k]!) (l₁ := l.take k) (l₂ := l.drop (k + 1))
  rw [getElem!_pos l k hk, List.getElem_cons_drop, List.take_append_drop] at this
  rw [getElem!_pos l k hk]
  exact this
theorem sorted_erase {l : List Du} (h : l.Pairwise LeD) (k : Nat) : (l.eraseIdx k).Pairwise LeD := h.sublist (List.eraseIdx_sublist _ _)
def addD (l : List Du) (d : Du) : List Du × Int :=
  if rightD l = true ∧ mayD d = true then (if 64 ≤ (restD l d.which).length then (l, 6) else (putD (restD l d.which) d, 0)) else (l, 1)
def dropD (l : List Du) (t : Int) : List Du × Int := if rightD l = true then (if (restD l t).length = l.length then (l, 7) else (restD l t, 0)) else (l, 1)
def comeD (l : List Du) (now : Int) : List Du × List Int × Int :=
  if rightD l = true then (l.filter (fun x => decide (now < x.when_)), (l.filter (fun x => decide (x.when_ ≤ now))).map Du.which, 0) else (l, [], 1)
def firstD (l : List Du) : Int × Bool := if rightD l = true ∧ l ≠ [] then (l[0]!.when_, true) else (0, false)
theorem putD_length (l : List Du) (d : Du) : (putD l d).length = l.length + 1 := by have := (putD_perm l d).length_eq; simpa using this
/-- A sorted list is split at a time. -/
theorem split_at {dn rest l : List Du} {now : Int} (e : dn ++ rest = l) (h1 : ∀ x ∈ dn, x.when_ ≤ now) (h2 : ∀ x ∈ rest, now < x.when_) :
    l.filter (fun x => decide (now < x.when_)) = rest ∧ l.filter (fun x => decide (x.when_ ≤ now)) = dn := by
  subst e
  rw [List.filter_append, List.filter_append]
  constructor
  · have e1 : dn.filter (fun x => decide (now < x.when_)) = [] := by
      rw [List.filter_eq_nil_iff]
      intro x hx
      have := h1 x hx
      simp only [decide_eq_true_eq]; omega
    have e2 : rest.filter (fun x => decide (now < x.when_)) = rest := by
      rw [List.filter_eq_self]
      intro x hx
      exact decide_eq_true (h2 x hx)
    rw [e1, e2]; rfl
  · have e1 : rest.filter (fun x => decide (x.when_ ≤ now)) = [] := by
      rw [List.filter_eq_nil_iff]
      intro x hx
      have := h2 x hx
      simp only [decide_eq_true_eq]; omega
    have e2 : dn.filter (fun x => decide (x.when_ ≤ now)) = dn := by
      rw [List.filter_eq_self]
      intro x hx
      exact decide_eq_true (h1 x hx)
    rw [e1, e2, List.append_nil]
theorem later {x : Du} {t : List Du} {now : Int} (h : (x :: t).Pairwise LeD) (hx : now < x.when_) : ∀ y ∈ x :: t, now < y.when_ := by
  intro y hy
  rcases List.mem_cons.1 hy with rfl | hy
  · exact hx
  · have := LeD.iff.1 ((List.pairwise_cons.1 h).1 y hy)
    omega
end Go.Proofs.Ytimhdkgllgdamaa
